/- Walks of the dates and the calendars. -/
import Derived.Test.YthfnaaeddlnckaaCode
import Derived.Test.YthfnaaeddlnckaaApi
section
set_option linter.unusedSimpArgs false
set_option linter.unusedVariables false
set_option maxHeartbeats 400000
set_option maxRecDepth 8000
namespace Go.Proofs.Ythfnaaeddlnckaa
open E

def leap (y : Int) : Bool := y.tmod 4 == 0 && (!(y.tmod 100 == 0) || y.tmod 400 == 0)
def mdays : List Int := [31, 28, 31, 30, 31, 30, 31, 31, 30, 31, 30, 31]
def days (y m : Int) : Int :=
  if m < 1 ∨ 12 < m ∨ y < 1900 ∨ 2199 < y then 0 else if m = 2 ∧ leap y = true then 29 else mdays.getD (m - 1).toNat 0
def begin (y : Int) : Int := W (W (W (W (W (365 * W (y - 1)) + W ((W (y - 1)).tdiv 4)) - W ((W (y - 1)).tdiv 100)) + W ((W (y - 1)).tdiv 400)) - 719162)
def dvalid (d : Int) : Bool := decide (-25567 ≤ d) && decide (d ≤ 84005)

theorem w_leap (y : Int) : Pure Try.prog 96 [vI y] (vB (leap y)) := by
  (refine Pure.of_code mix Try.call96 k_96 (by simp) (fun hB => ?_); (try simp at hB); (try simp -implicitDefEqProofs [c_date_leap_96]))
  ((try simp -implicitDefEqProofs [leap]); repeat' first | (with_reducible refine gdK_em (fun hc => ?_) (fun hc => ?_) <;> (have hc' := hc; (try simp at hc'); simp -implicitDefEqProofs [hc, hc', leap])) | (with_reducible refine cdK_em (fun hc => ?_) (fun hc => ?_) <;> (have hc' := hc; (try simp at hc'); simp -implicitDefEqProofs [hc, hc', leap])) | (with_reducible refine pickK_em (fun hc => ?_) (fun hc => ?_) <;> (have hc' := hc; (try simp at hc'); simp -implicitDefEqProofs [hc, hc', leap])))
theorem w_rleap (y : Int) : Pure Try.prog 70 [vI y] (vB (leap y)) := by
  (refine Pure.of_code mix Try.call70 k_70 (by simp) (fun hB => ?_); (try simp at hB); (try simp -implicitDefEqProofs [c_tallystoneref06_leap_70]))
  ((try simp -implicitDefEqProofs [leap]); repeat' first | (with_reducible refine gdK_em (fun hc => ?_) (fun hc => ?_) <;> (have hc' := hc; (try simp at hc'); simp -implicitDefEqProofs [hc, hc', leap])) | (with_reducible refine cdK_em (fun hc => ?_) (fun hc => ?_) <;> (have hc' := hc; (try simp at hc'); simp -implicitDefEqProofs [hc, hc', leap])) | (with_reducible refine pickK_em (fun hc => ?_) (fun hc => ?_) <;> (have hc' := hc; (try simp at hc'); simp -implicitDefEqProofs [hc, hc', leap])))
theorem w_dvalid (y : Int) : Pure Try.prog 94 [vI y] (vB (dvalid y)) := by
  (refine Pure.of_code mix Try.call94 k_94 (by simp) (fun hB => ?_); (try simp at hB); (try simp -implicitDefEqProofs [c_date_Valid_94]))
  ((try simp -implicitDefEqProofs [dvalid]); repeat' first | (with_reducible refine gdK_em (fun hc => ?_) (fun hc => ?_) <;> (have hc' := hc; (try simp at hc'); simp -implicitDefEqProofs [hc, hc', dvalid])) | (with_reducible refine cdK_em (fun hc => ?_) (fun hc => ?_) <;> (have hc' := hc; (try simp at hc'); simp -implicitDefEqProofs [hc, hc', dvalid])) | (with_reducible refine pickK_em (fun hc => ?_) (fun hc => ?_) <;> (have hc' := hc; (try simp at hc'); simp -implicitDefEqProofs [hc, hc', dvalid])))
theorem w_rdvalid (y : Int) : Pure Try.prog 69 [vI y] (vB (dvalid y)) := by
  (refine Pure.of_code mix Try.call69 k_69 (by simp) (fun hB => ?_); (try simp at hB); (try simp -implicitDefEqProofs [c_tallystoneref06_Valid_69]))
  ((try simp -implicitDefEqProofs [dvalid]); repeat' first | (with_reducible refine gdK_em (fun hc => ?_) (fun hc => ?_) <;> (have hc' := hc; (try simp at hc'); simp -implicitDefEqProofs [hc, hc', dvalid])) | (with_reducible refine cdK_em (fun hc => ?_) (fun hc => ?_) <;> (have hc' := hc; (try simp at hc'); simp -implicitDefEqProofs [hc, hc', dvalid])) | (with_reducible refine pickK_em (fun hc => ?_) (fun hc => ?_) <;> (have hc' := hc; (try simp at hc'); simp -implicitDefEqProofs [hc, hc', dvalid])))
theorem w_begin (y : Int) : Pure Try.prog 95 [vI y] (vI (begin y)) := by
  (refine Pure.of_code mix Try.call95 k_95 (by simp) (fun hB => ?_); (try simp at hB); (try simp -implicitDefEqProofs [c_date_begin_95, begin]))

theorem days_out {y m : Int} (h : m < 1 ∨ 12 < m ∨ y < 1900 ∨ 2199 < y) : days y m = 0 := by unfold days; rw [if_pos h]
theorem days_in {y m : Int} (h : ¬ (m < 1 ∨ 12 < m ∨ y < 1900 ∨ 2199 < y)) : days y m = if m = 2 ∧ leap y = true then 29 else mdays.getD (m - 1).toNat 0 := by
  unfold days; rw [if_neg h]

theorem w_days (y m : Int) : Pure Try.prog 79 [vI y, vI m] (vI (days y m)) := by
  by_cases h : m < 1 ∨ 12 < m ∨ y < 1900 ∨ 2199 < y
  · rw [days_out h]
    (refine Pure.of_code mix Try.call79 k_79 (by simp) (fun hB => ?_); (try simp at hB); (try simp -implicitDefEqProofs [c_date_Days_79]))
    ((try simp -implicitDefEqProofs); repeat' first | (with_reducible refine gdK_em (fun hc => ?_) (fun hc => ?_) <;> (have hc' := hc; (try simp at hc'); simp -implicitDefEqProofs [hc, hc'])) | (with_reducible refine cdK_em (fun hc => ?_) (fun hc => ?_) <;> (have hc' := hc; (try simp at hc'); simp -implicitDefEqProofs [hc, hc'])) | (with_reducible refine pickK_em (fun hc => ?_) (fun hc => ?_) <;> (have hc' := hc; (try simp at hc'); simp -implicitDefEqProofs [hc, hc'])) | (with_reducible apply callK_pure <;> first | (simp only [eras, era, eras_map]; first | with_reducible exact w_leap _ | simpa using w_leap _) | (simp -implicitDefEqProofs)))
    all_goals (exfalso; omega)
  · rw [days_in h]
    have hm : m = 1 ∨ m = 2 ∨ m = 3 ∨ m = 4 ∨ m = 5 ∨ m = 6 ∨ m = 7 ∨ m = 8 ∨ m = 9 ∨ m = 10 ∨ m = 11 ∨ m = 12 := by omega
    have h1 : ¬ y < 1900 := by omega
    have h2 : ¬ 2199 < y := by omega
    rcases hm with rfl | rfl | rfl | rfl | rfl | rfl | rfl | rfl | rfl | rfl | rfl | rfl <;>
    · (refine Pure.of_code mix Try.call79 k_79 (by simp) (fun hB => ?_); (try simp at hB); (try simp -implicitDefEqProofs [c_date_Days_79, h1, h2, mdays]))
      ((try simp -implicitDefEqProofs [mdays]); repeat' first | (with_reducible refine gdK_em (fun hc => ?_) (fun hc => ?_) <;> (have hc' := hc; (try simp at hc'); simp -implicitDefEqProofs [hc, hc', mdays])) | (with_reducible refine cdK_em (fun hc => ?_) (fun hc => ?_) <;> (have hc' := hc; (try simp at hc'); simp -implicitDefEqProofs [hc, hc', mdays])) | (with_reducible refine pickK_em (fun hc => ?_) (fun hc => ?_) <;> (have hc' := hc; (try simp at hc'); simp -implicitDefEqProofs [hc, hc', mdays])) | (with_reducible apply callK_pure <;> first | (simp only [eras, era, eras_map]; first | with_reducible exact w_leap _ | simpa using w_leap _) | (simp -implicitDefEqProofs [mdays])))
theorem w_rdays (y m : Int) : Pure Try.prog 48 [vI y, vI m] (vI (days y m)) := by
  by_cases h : m < 1 ∨ 12 < m ∨ y < 1900 ∨ 2199 < y
  · rw [days_out h]
    (refine Pure.of_code mix Try.call48 k_48 (by simp) (fun hB => ?_); (try simp at hB); (try simp -implicitDefEqProofs [c_tallystoneref06_Days_48]))
    ((try simp -implicitDefEqProofs); repeat' first | (with_reducible refine gdK_em (fun hc => ?_) (fun hc => ?_) <;> (have hc' := hc; (try simp at hc'); simp -implicitDefEqProofs [hc, hc'])) | (with_reducible refine cdK_em (fun hc => ?_) (fun hc => ?_) <;> (have hc' := hc; (try simp at hc'); simp -implicitDefEqProofs [hc, hc'])) | (with_reducible refine pickK_em (fun hc => ?_) (fun hc => ?_) <;> (have hc' := hc; (try simp at hc'); simp -implicitDefEqProofs [hc, hc'])) | (with_reducible apply callK_pure <;> first | (simp only [eras, era, eras_map]; first | with_reducible exact w_rleap _ | simpa using w_rleap _) | (simp -implicitDefEqProofs)))
    all_goals (exfalso; omega)
  · rw [days_in h]
    have hm : m = 1 ∨ m = 2 ∨ m = 3 ∨ m = 4 ∨ m = 5 ∨ m = 6 ∨ m = 7 ∨ m = 8 ∨ m = 9 ∨ m = 10 ∨ m = 11 ∨ m = 12 := by omega
    have h1 : ¬ y < 1900 := by omega
    have h2 : ¬ 2199 < y := by omega
    rcases hm with rfl | rfl | rfl | rfl | rfl | rfl | rfl | rfl | rfl | rfl | rfl | rfl <;>
    · (refine Pure.of_code mix Try.call48 k_48 (by simp) (fun hB => ?_); (try simp at hB); (try simp -implicitDefEqProofs [c_tallystoneref06_Days_48, h1, h2, mdays]))
      ((try simp -implicitDefEqProofs [mdays]); repeat' first | (with_reducible refine gdK_em (fun hc => ?_) (fun hc => ?_) <;> (have hc' := hc; (try simp at hc'); simp -implicitDefEqProofs [hc, hc', mdays])) | (with_reducible refine cdK_em (fun hc => ?_) (fun hc => ?_) <;> (have hc' := hc; (try simp at hc'); simp -implicitDefEqProofs [hc, hc', mdays])) | (with_reducible refine pickK_em (fun hc => ?_) (fun hc => ?_) <;> (have hc' := hc; (try simp at hc'); simp -implicitDefEqProofs [hc, hc', mdays])) | (with_reducible apply callK_pure <;> first | (simp only [eras, era, eras_map]; first | with_reducible exact w_rleap _ | simpa using w_rleap _) | (simp -implicitDefEqProofs [mdays])))
end Go.Proofs.Ythfnaaeddlnckaa
end

/- Walks of the dates and the calendars, second part. -/
section
set_option linter.unusedSimpArgs false
set_option linter.unusedVariables false
set_option maxHeartbeats 400000
set_option maxRecDepth 8000
namespace Go.Proofs.Ythfnaaeddlnckaa
open E

def bgn (y : Int) : Int := 365 * (y - 1) + (y - 1) / 4 - (y - 1) / 100 + (y - 1) / 400 - 719162
def msum (y : Int) : Nat → Int
  | 0 => 0
  | n + 1 => msum y n + days y (n + 1)
def dateOf (y m d : Int) : Int := bgn y + msum y (m - 1).toNat + d - 1
/-- A day of the calendar. -/
def Day (y m d : Int) : Prop := 1900 ≤ y ∧ y ≤ 2199 ∧ 1 ≤ m ∧ m ≤ 12 ∧ 1 ≤ d ∧ d ≤ days y m

theorem leap_iff {y : Int} (h : 0 ≤ y) : leap y = true ↔ y % 4 = 0 ∧ (y % 100 ≠ 0 ∨ y % 400 = 0) := by
  unfold leap
  simp only [Int.tmod_eq_emod_of_nonneg h, Bool.and_eq_true, Bool.or_eq_true, beq_iff_eq, Bool.not_eq_true', beq_eq_false_iff_ne, ne_eq]
theorem bgn_next {y : Int} (h : 0 ≤ y) : bgn (y + 1) = bgn y + (if leap y = true then 366 else 365) := by
  have := leap_iff h
  unfold bgn
  split
  · rename_i hl; rw [this] at hl; omega
  · rename_i hl; rw [this] at hl; omega
theorem begin_eq {y : Int} (h1 : 1900 ≤ y) (h2 : y ≤ 2200) : begin y = bgn y := by
  have e0 : W (y - 1) = y - 1 := W_in (by omega) (by omega)
  unfold begin bgn
  rw [e0]
  simp only [Int.tdiv_eq_ediv_of_nonneg (show (0 : Int) ≤ y - 1 by omega)]
  rw [W_in (x := 365 * (y - 1)) (by omega) (by omega), W_in (x := (y - 1) / 4) (by omega) (by omega), W_in (x := (y - 1) / 100) (by omega) (by omega), W_in (x := (y - 1) / 400) (by omega) (by omega),
    W_in (x := 365 * (y - 1) + (y - 1) / 4) (by omega) (by omega), W_in (x := 365 * (y - 1) + (y - 1) / 4 - (y - 1) / 100) (by omega) (by omega), W_in (x := 365 * (y - 1) + (y - 1) / 4 - (y - 1) / 100 + (y - 1) / 400) (by omega) (by omega), W_in (by omega) (by omega)]
theorem bgn_mono {x y : Int} (h : x ≤ y) (h0 : 1 ≤ x) : bgn x ≤ bgn y := by unfold bgn; omega
theorem bgn_bounds {y : Int} (h1 : 1900 ≤ y) (h2 : y ≤ 2200) : -25567 ≤ bgn y ∧ bgn y ≤ 84006 := by unfold bgn; omega

theorem days_pos {y m : Int} (h : 1900 ≤ y ∧ y ≤ 2199 ∧ 1 ≤ m ∧ m ≤ 12) : 28 ≤ days y m ∧ days y m ≤ 31 := by
  rw [days_in (by omega)]
  have hm : m = 1 ∨ m = 2 ∨ m = 3 ∨ m = 4 ∨ m = 5 ∨ m = 6 ∨ m = 7 ∨ m = 8 ∨ m = 9 ∨ m = 10 ∨ m = 11 ∨ m = 12 := by omega
  rcases hm with rfl | rfl | rfl | rfl | rfl | rfl | rfl | rfl | rfl | rfl | rfl | rfl <;> simp [mdays]
  split <;> simp
theorem days_le (y m : Int) : 0 ≤ days y m ∧ days y m ≤ 31 := by
  by_cases h : m < 1 ∨ 12 < m ∨ y < 1900 ∨ 2199 < y
  · rw [days_out h]; omega
  · have := days_pos (y := y) (m := m) (by omega); omega
theorem days_some {y m d : Int} (h1 : 1 ≤ d) (h2 : d ≤ days y m) : Day y m d := by
  by_cases h : m < 1 ∨ 12 < m ∨ y < 1900 ∨ 2199 < y
  · rw [days_out h] at h2; omega
  · exact ⟨by omega, by omega, by omega, by omega, h1, h2⟩
theorem msum_bounds (y : Int) (n : Nat) : 0 ≤ msum y n ∧ msum y n ≤ 31 * n := by
  induction n with
  | zero => simp [msum]
  | succ n ih => have := days_le y (n + 1); simp only [msum]; omega
theorem msum_mono (y : Int) {n k : Nat} (h : n ≤ k) : msum y n ≤ msum y k := by
  induction k with
  | zero => have : n = 0 := by omega
            subst this; exact Int.le_refl _
  | succ k ih =>
    by_cases hk : n = k + 1
    · subst hk; exact Int.le_refl _
    · have := ih (by omega); have := days_le y (k + 1); simp only [msum]; omega
theorem year_len {y : Int} (h1 : 1900 ≤ y) (h2 : y ≤ 2199) : msum y 12 = bgn (y + 1) - bgn y := by
  rw [bgn_next (by omega)]
  simp only [msum]
  have d : ∀ m : Int, 1 ≤ m → m ≤ 12 → days y m = if m = 2 ∧ leap y = true then 29 else mdays.getD (m - 1).toNat 0 := fun m _ _ => days_in (by omega)
  have e := fun (n : Nat) (h : n < 12) => d ((n : Int) + 1) (by omega) (by omega)
  rw [e 0 (by omega), e 1 (by omega), e 2 (by omega), e 3 (by omega), e 4 (by omega), e 5 (by omega), e 6 (by omega), e 7 (by omega), e 8 (by omega), e 9 (by omega), e 10 (by omega), e 11 (by omega)]
  cases leap y <;> simp [mdays] <;> omega
theorem Day.bounds {y m d : Int} (h : Day y m d) : bgn y ≤ dateOf y m d ∧ dateOf y m d < bgn (y + 1) ∧ msum y (m - 1).toNat ≤ dateOf y m d - bgn y ∧ dateOf y m d - bgn y < msum y m.toNat := by
  obtain ⟨h1, h2, h3, h4, h5, h6⟩ := h
  have e : m.toNat = (m - 1).toNat + 1 := by omega
  have e2 : msum y m.toNat = msum y (m - 1).toNat + days y m := by
    rw [e]; simp only [msum]; congr 2; omega
  have := msum_bounds y (m - 1).toNat
  have h12 := msum_mono y (show m.toNat ≤ 12 by omega)
  have := year_len h1 h2
  unfold dateOf
  omega

theorem w_Of (y m d : Int) (h : Day y m d) : Pure Try.prog 93 [vI y, vI m, vI d] (.tup [vI (dateOf y m d), vI 0]) := by
  obtain ⟨h1, h2, h3, h4, h5, h6⟩ := h
  have hb := begin_eq (y := y) h1 (by omega)
  have hbb := bgn_bounds (y := y) h1 (by omega)
  have hdl := days_le y m
  have e1 : IntKind.i64.wrap (IntKind.i64.wrap (bgn y + d) - 1) = bgn y + d - 1 := by rw [wrap64 (x := bgn y + d) (by omega) (by omega), wrap64 (by omega) (by omega)]
  have hd1 : ¬ d < 1 := by omega
  have hd2 : ¬ days y m < d := by omega
  (refine Pure.of_code mix Try.call93 k_93 (by simp) (fun hB => ?_); (try simp at hB); (try simp -implicitDefEqProofs [c_date_Of_93, hd1]))
  ((try simp -implicitDefEqProofs [hd1, hd2]); repeat' first | (with_reducible refine gdK_em (fun hc => ?_) (fun hc => ?_) <;> (have hc' := hc; (try simp at hc'); simp -implicitDefEqProofs [hc, hc', hd1, hd2])) | (with_reducible refine cdK_em (fun hc => ?_) (fun hc => ?_) <;> (have hc' := hc; (try simp at hc'); simp -implicitDefEqProofs [hc, hc', hd1, hd2])) | (with_reducible refine pickK_em (fun hc => ?_) (fun hc => ?_) <;> (have hc' := hc; (try simp at hc'); simp -implicitDefEqProofs [hc, hc', hd1, hd2])) | (with_reducible apply callK_pure <;> first | (simp only [eras, era, eras_map]; first | with_reducible exact (w_days _ _) | simpa using (w_days _ _)) | (simp -implicitDefEqProofs [hd1, hd2])) | (with_reducible apply callK_pure <;> first | (simp only [eras, era, eras_map]; first | with_reducible exact (w_begin _) | simpa using (w_begin _)) | (simp -implicitDefEqProofs [hd1, hd2])))
  rw [hb, e1]
  refine loop_rule (X := Nat) (fun k => (k : Int) + 1 ≤ m) (fun k => [(0, vI y), (1, vI m), (8, vI (bgn y + d - 1 + msum y k)), (9, vI (k + 1))]) (fun _ => ⟨[], []⟩) (fun k => m.toNat - k) 0 (by omega) (by simp [msum]) ?_
  intro k hk hbd
  have hms := msum_bounds y k
  have hdk := days_le y (k + 1)
  by_cases hlt : (k : Int) + 1 < m
  · have e2 : IntKind.i64.wrap (bgn y + d - 1 + msum y k + days y (k + 1)) = bgn y + d - 1 + msum y (k + 1) := by rw [wrap64 (by omega) (by omega)]; simp only [msum]; omega
    have e3 : IntKind.i64.wrap ((k : Int) + 1 + 1) = (k : Int) + 1 + 1 := wrap64 (by omega) (by omega)
    ((try simp -implicitDefEqProofs [hlt]); repeat' first | (with_reducible refine gdK_em (fun hc => ?_) (fun hc => ?_) <;> (have hc' := hc; (try simp at hc'); simp -implicitDefEqProofs [hc, hc', hlt])) | (with_reducible refine cdK_em (fun hc => ?_) (fun hc => ?_) <;> (have hc' := hc; (try simp at hc'); simp -implicitDefEqProofs [hc, hc', hlt])) | (with_reducible refine pickK_em (fun hc => ?_) (fun hc => ?_) <;> (have hc' := hc; (try simp at hc'); simp -implicitDefEqProofs [hc, hc', hlt])) | (with_reducible apply callK_pure <;> first | (simp only [eras, era, eras_map]; first | with_reducible exact (w_days _ _) | simpa using (w_days _ _)) | (simp -implicitDefEqProofs [hlt])))
    exact ⟨k + 1, by omega, by omega, e2.symm, by rw [e3]; omega⟩
  · have hk2 : (k : Int) = m - 1 := by omega
    have hk3 : k = (m - 1).toNat := by omega
    ((try simp -implicitDefEqProofs [hlt]); repeat' first | (with_reducible refine gdK_em (fun hc => ?_) (fun hc => ?_) <;> (have hc' := hc; (try simp at hc'); simp -implicitDefEqProofs [hc, hc', hlt])) | (with_reducible refine cdK_em (fun hc => ?_) (fun hc => ?_) <;> (have hc' := hc; (try simp at hc'); simp -implicitDefEqProofs [hc, hc', hlt])) | (with_reducible refine pickK_em (fun hc => ?_) (fun hc => ?_) <;> (have hc' := hc; (try simp at hc'); simp -implicitDefEqProofs [hc, hc', hlt])))
    subst hk3
    unfold dateOf; omega
theorem w_Of_out (y m d : Int) (h : ¬ Day y m d) : Pure Try.prog 93 [vI y, vI m, vI d] (.tup [vI 0, vI 2]) := by
  have hh : d < 1 ∨ days y m < d := by
    by_cases h1 : d < 1
    · exact .inl h1
    · by_cases h2 : days y m < d
      · exact .inr h2
      · exact absurd (days_some (by omega) (by omega)) h
  (refine Pure.of_code mix Try.call93 k_93 (by simp) (fun hB => ?_); (try simp at hB); (try simp -implicitDefEqProofs [c_date_Of_93]))
  ((try simp -implicitDefEqProofs); repeat' first | (with_reducible refine gdK_em (fun hc => ?_) (fun hc => ?_) <;> (have hc' := hc; (try simp at hc'); simp -implicitDefEqProofs [hc, hc'])) | (with_reducible refine cdK_em (fun hc => ?_) (fun hc => ?_) <;> (have hc' := hc; (try simp at hc'); simp -implicitDefEqProofs [hc, hc'])) | (with_reducible refine pickK_em (fun hc => ?_) (fun hc => ?_) <;> (have hc' := hc; (try simp at hc'); simp -implicitDefEqProofs [hc, hc'])) | (with_reducible apply callK_pure <;> first | (simp only [eras, era, eras_map]; first | with_reducible exact (w_days _ _) | simpa using (w_days _ _)) | (simp -implicitDefEqProofs)))
  all_goals (exfalso; omega)

theorem w_rOf (y m d : Int) (h : Day y m d) : Pure Try.prog 67 [vI y, vI m, vI d] (.tup [vI (dateOf y m d), vI 0]) := by
  obtain ⟨h1, h2, h3, h4, h5, h6⟩ := h
  have hdl := days_le y m
  have hd1 : ¬ d < 1 := by omega
  have hd2 : ¬ days y m < d := by omega
  (refine Pure.of_code mix Try.call67 k_67 (by simp) (fun hB => ?_); (try simp at hB); (try simp -implicitDefEqProofs [c_tallystoneref06_Of_67, hd1]))
  ((try simp -implicitDefEqProofs [hd1, hd2]); repeat' first | (with_reducible refine gdK_em (fun hc => ?_) (fun hc => ?_) <;> (have hc' := hc; (try simp at hc'); simp -implicitDefEqProofs [hc, hc', hd1, hd2])) | (with_reducible refine cdK_em (fun hc => ?_) (fun hc => ?_) <;> (have hc' := hc; (try simp at hc'); simp -implicitDefEqProofs [hc, hc', hd1, hd2])) | (with_reducible refine pickK_em (fun hc => ?_) (fun hc => ?_) <;> (have hc' := hc; (try simp at hc'); simp -implicitDefEqProofs [hc, hc', hd1, hd2])) | (with_reducible apply callK_pure <;> first | (simp only [eras, era, eras_map]; first | with_reducible exact (w_rdays _ _) | simpa using (w_rdays _ _)) | (simp -implicitDefEqProofs [hd1, hd2])))
  refine loop_rule (X := Nat) (fun k => 1900 + (k : Int) ≤ y) (fun k => [(0, vI y), (1, vI m), (2, vI d), (8, vI (bgn (1900 + k))), (9, vI (1900 + k))]) (fun _ => ⟨[], []⟩) (fun k => y.toNat - k) 0 (by omega) (by simp [bgn]) ?_
  intro k hk hbd
  have hbk := bgn_bounds (y := 1900 + k) (by omega) (by omega)
  by_cases hlt : 1900 + (k : Int) < y
  · have e3 : IntKind.i64.wrap (1900 + (k : Int) + 1) = 1900 + (k : Int) + 1 := wrap64 (by omega) (by omega)
    have hn := bgn_next (y := 1900 + k) (by omega)
    have e4 : IntKind.i64.wrap (bgn (1900 + k) + 365) = bgn (1900 + k) + 365 := wrap64 (by omega) (by omega)
    have e5 : IntKind.i64.wrap (bgn (1900 + k) + 365 + 1) = bgn (1900 + k) + 366 := by rw [wrap64 (by omega) (by omega)]; omega
    ((try simp -implicitDefEqProofs [hlt, e4, e5]); repeat' first | (with_reducible refine gdK_em (fun hc => ?_) (fun hc => ?_) <;> (have hc' := hc; (try simp at hc'); simp -implicitDefEqProofs [hc, hc', hlt, e4, e5])) | (with_reducible refine cdK_em (fun hc => ?_) (fun hc => ?_) <;> (have hc' := hc; (try simp at hc'); simp -implicitDefEqProofs [hc, hc', hlt, e4, e5])) | (with_reducible refine pickK_em (fun hc => ?_) (fun hc => ?_) <;> (have hc' := hc; (try simp at hc'); simp -implicitDefEqProofs [hc, hc', hlt, e4, e5])) | (with_reducible apply callK_pure <;> first | (simp only [eras, era, eras_map]; first | with_reducible exact (w_rleap _) | simpa using (w_rleap _)) | (simp -implicitDefEqProofs [hlt, e4, e5])))
    · rw [if_pos hc] at hn
      exact ⟨k + 1, by omega, by omega, by rw [show (1900 : Int) + ((k + 1 : Nat) : Int) = 1900 + k + 1 from by omega, hn], by rw [e3]; omega⟩
    · rw [if_neg (by simp [hc])] at hn
      exact ⟨k + 1, by omega, by omega, by rw [show (1900 : Int) + ((k + 1 : Nat) : Int) = 1900 + k + 1 from by omega, hn], by rw [e3]; omega⟩
  · have hk2 : 1900 + (k : Int) = y := by omega
    rw [hk2] at hbk ⊢
    ((try simp -implicitDefEqProofs [hlt]); repeat' first | (with_reducible refine gdK_em (fun hc => ?_) (fun hc => ?_) <;> (have hc' := hc; (try simp at hc'); simp -implicitDefEqProofs [hc, hc', hlt])) | (with_reducible refine cdK_em (fun hc => ?_) (fun hc => ?_) <;> (have hc' := hc; (try simp at hc'); simp -implicitDefEqProofs [hc, hc', hlt])) | (with_reducible refine pickK_em (fun hc => ?_) (fun hc => ?_) <;> (have hc' := hc; (try simp at hc'); simp -implicitDefEqProofs [hc, hc', hlt])))
    refine loop_rule (X := Nat) (fun k => (k : Int) + 1 ≤ m) (fun k => [(0, vI y), (1, vI m), (2, vI d), (8, vI (bgn y + msum y k)), (10, vI (k + 1))]) (fun _ => ⟨[], []⟩) (fun k => m.toNat - k) 0 (by omega) (by simp [msum]) ?_
    intro k hk hbd
    have hms := msum_bounds y k
    have hdk := days_le y (k + 1)
    by_cases hlt : (k : Int) + 1 < m
    · have e2 : IntKind.i64.wrap (bgn y + msum y k + days y (k + 1)) = bgn y + msum y (k + 1) := by rw [wrap64 (by omega) (by omega)]; simp only [msum]; omega
      have e3 : IntKind.i64.wrap ((k : Int) + 1 + 1) = (k : Int) + 1 + 1 := wrap64 (by omega) (by omega)
      ((try simp -implicitDefEqProofs [hlt]); repeat' first | (with_reducible refine gdK_em (fun hc => ?_) (fun hc => ?_) <;> (have hc' := hc; (try simp at hc'); simp -implicitDefEqProofs [hc, hc', hlt])) | (with_reducible refine cdK_em (fun hc => ?_) (fun hc => ?_) <;> (have hc' := hc; (try simp at hc'); simp -implicitDefEqProofs [hc, hc', hlt])) | (with_reducible refine pickK_em (fun hc => ?_) (fun hc => ?_) <;> (have hc' := hc; (try simp at hc'); simp -implicitDefEqProofs [hc, hc', hlt])) | (with_reducible apply callK_pure <;> first | (simp only [eras, era, eras_map]; first | with_reducible exact (w_rdays _ _) | simpa using (w_rdays _ _)) | (simp -implicitDefEqProofs [hlt])))
      exact ⟨k + 1, by omega, by omega, e2.symm, by rw [e3]; omega⟩
    · have hk3 : k = (m - 1).toNat := by omega
      have e6 : IntKind.i64.wrap (IntKind.i64.wrap (bgn y + msum y k + d) - 1) = bgn y + msum y k + d - 1 := by rw [wrap64 (x := bgn y + msum y k + d) (by omega) (by omega), wrap64 (by omega) (by omega)]
      ((try simp -implicitDefEqProofs [hlt]); repeat' first | (with_reducible refine gdK_em (fun hc => ?_) (fun hc => ?_) <;> (have hc' := hc; (try simp at hc'); simp -implicitDefEqProofs [hc, hc', hlt])) | (with_reducible refine cdK_em (fun hc => ?_) (fun hc => ?_) <;> (have hc' := hc; (try simp at hc'); simp -implicitDefEqProofs [hc, hc', hlt])) | (with_reducible refine pickK_em (fun hc => ?_) (fun hc => ?_) <;> (have hc' := hc; (try simp at hc'); simp -implicitDefEqProofs [hc, hc', hlt])))
      rw [e6]
      subst hk3
      unfold dateOf; omega
theorem w_rOf_out (y m d : Int) (h : ¬ Day y m d) : Pure Try.prog 67 [vI y, vI m, vI d] (.tup [vI 0, vI 2]) := by
  have hh : d < 1 ∨ days y m < d := by
    by_cases h1 : d < 1
    · exact .inl h1
    · by_cases h2 : days y m < d
      · exact .inr h2
      · exact absurd (days_some (by omega) (by omega)) h
  (refine Pure.of_code mix Try.call67 k_67 (by simp) (fun hB => ?_); (try simp at hB); (try simp -implicitDefEqProofs [c_tallystoneref06_Of_67]))
  ((try simp -implicitDefEqProofs); repeat' first | (with_reducible refine gdK_em (fun hc => ?_) (fun hc => ?_) <;> (have hc' := hc; (try simp at hc'); simp -implicitDefEqProofs [hc, hc'])) | (with_reducible refine cdK_em (fun hc => ?_) (fun hc => ?_) <;> (have hc' := hc; (try simp at hc'); simp -implicitDefEqProofs [hc, hc'])) | (with_reducible refine pickK_em (fun hc => ?_) (fun hc => ?_) <;> (have hc' := hc; (try simp at hc'); simp -implicitDefEqProofs [hc, hc'])) | (with_reducible apply callK_pure <;> first | (simp only [eras, era, eras_map]; first | with_reducible exact (w_rdays _ _) | simpa using (w_rdays _ _)) | (simp -implicitDefEqProofs)))
  all_goals (exfalso; omega)
end Go.Proofs.Ythfnaaeddlnckaa
end

/- Walks of the dates and the calendars, third part. -/
section
set_option linter.unusedSimpArgs false
set_option linter.unusedVariables false
set_option maxHeartbeats 400000
set_option maxRecDepth 8000
namespace Go.Proofs.Ythfnaaeddlnckaa
open E

theorem Day.dvalid {y m d : Int} (h : Day y m d) : dvalid (dateOf y m d) = true := by
  have hb := h.bounds
  obtain ⟨h1, h2, h3, h4, h5, h6⟩ := h
  have b1 := bgn_bounds (y := y) h1 (by omega)
  have b2 := bgn_bounds (y := y + 1) (by omega) (by omega)
  simp [Go.Proofs.Ythfnaaeddlnckaa.dvalid]; omega

/-- Where the search for the year begins. -/
theorem civil_start {t y : Int} (h1 : 1900 ≤ y) (h2 : y ≤ 2199) (h3 : bgn y ≤ t) (h4 : t < bgn (y + 1)) : 1968 + t.tdiv 366 ≤ y ∧ 1000 ≤ 1968 + t.tdiv 366 := by
  have b1 := bgn_bounds (y := y) h1 (by omega)
  have b2 := bgn_bounds (y := y + 1) (by omega) (by omega)
  have hq : (0 ≤ t ∧ t.tdiv 366 = t / 366) ∨ (t < 0 ∧ t.tdiv 366 = -((-t) / 366)) := by
    rcases Int.lt_or_le t 0 with h | h
    · right; refine ⟨h, ?_⟩
      have := Int.neg_tdiv (-t) 366
      rw [Int.neg_neg] at this
      rw [this, Int.tdiv_eq_ediv_of_nonneg (by omega)]
    · left; exact ⟨h, Int.tdiv_eq_ediv_of_nonneg h⟩
  unfold bgn at *
  omega

theorem w_Civil (y m d : Int) (h : Day y m d) : Pure Try.prog 78 [vI (dateOf y m d)] (.tup [vI y, vI m, vI d, vI 0]) := by
  have hdv := h.dvalid
  obtain ⟨b1, b2, b3, b4⟩ := h.bounds
  have hdef : dateOf y m d = bgn y + msum y (m - 1).toNat + d - 1 := rfl
  obtain ⟨h1, h2, h3, h4, h5, h6⟩ := h
  generalize dateOf y m d = t at *
  have bb1 := bgn_bounds (y := y) h1 (by omega)
  have bb2 := bgn_bounds (y := y + 1) (by omega) (by omega)
  obtain ⟨s1, s2⟩ := civil_start h1 h2 b1 b2
  have e0 : IntKind.i64.wrap (IntKind.i64.wrap (1970 + IntKind.i64.wrap (t.tdiv 366)) - 2) = 1968 + t.tdiv 366 := by
    rw [wrap64 (x := t.tdiv 366) (by omega) (by omega), wrap64 (x := 1970 + t.tdiv 366) (by omega) (by omega), wrap64 (by omega) (by omega)]; omega
  (refine Pure.of_code mix Try.call78 k_78 (by simp) (fun hB => ?_); (try simp at hB); (try simp -implicitDefEqProofs [c_date_Civil_78]))
  ((try simp -implicitDefEqProofs [hdv, e0]); repeat' first | (with_reducible refine gdK_em (fun hc => ?_) (fun hc => ?_) <;> (have hc' := hc; (try simp at hc'); simp -implicitDefEqProofs [hc, hc', hdv, e0])) | (with_reducible refine cdK_em (fun hc => ?_) (fun hc => ?_) <;> (have hc' := hc; (try simp at hc'); simp -implicitDefEqProofs [hc, hc', hdv, e0])) | (with_reducible refine pickK_em (fun hc => ?_) (fun hc => ?_) <;> (have hc' := hc; (try simp at hc'); simp -implicitDefEqProofs [hc, hc', hdv, e0])) | (with_reducible apply callK_pure <;> first | (simp only [eras, era, eras_map]; first | with_reducible exact (w_dvalid _) | simpa using (w_dvalid _)) | (simp -implicitDefEqProofs [hdv, e0])))
  refine loop_rule (X := Int) (fun x => 1000 ≤ x ∧ x ≤ y) (fun x => [(0, vI t), (2, vI x)]) (fun _ => ⟨[], []⟩) (fun x => (y - x).toNat) (1968 + t.tdiv 366) ⟨s2, s1⟩ (by simp) ?_
  intro x ⟨hx1, hx⟩ hbd
  have ex : IntKind.i64.wrap (x + 1) = x + 1 := wrap64 (by omega) (by omega)
  by_cases hxy : x < y
  · have hcond : 1900 ≤ x → begin (x + 1) ≤ t := fun hx1 => by
      rw [begin_eq (by omega) (by omega)]
      have := bgn_mono (show x + 1 ≤ y by omega) (by omega)
      omega
    ((try simp -implicitDefEqProofs [ex]); repeat' first | (with_reducible refine gdK_em (fun hc => ?_) (fun hc => ?_) <;> (have hc' := hc; (try simp at hc'); simp -implicitDefEqProofs [hc, hc', ex])) | (with_reducible refine cdK_em (fun hc => ?_) (fun hc => ?_) <;> (have hc' := hc; (try simp at hc'); simp -implicitDefEqProofs [hc, hc', ex])) | (with_reducible refine pickK_em (fun hc => ?_) (fun hc => ?_) <;> (have hc' := hc; (try simp at hc'); simp -implicitDefEqProofs [hc, hc', ex])) | (with_reducible apply callK_pure <;> first | (simp only [eras, era, eras_map]; first | with_reducible exact (w_begin _) | simpa using (w_begin _)) | (simp -implicitDefEqProofs [ex])))
    all_goals first
      | omega
      | exact ⟨x + 1, by omega, by omega, by omega⟩
      | (exfalso; have := hcond (by omega); omega)
  · have hxy' : x = y := by omega
    subst hxy'
    have hn1 : ¬ x < 1900 := by omega
    have hn2 : ¬ begin (x + 1) ≤ t := by rw [begin_eq (by omega) (by omega)]; omega
    have ed : IntKind.i64.wrap (t - begin x) = t - bgn x := by rw [begin_eq h1 (by omega), wrap64 (by omega) (by omega)]
    ((try simp -implicitDefEqProofs [ex, hn1, hn2, ed]); repeat' first | (with_reducible refine gdK_em (fun hc => ?_) (fun hc => ?_) <;> (have hc' := hc; (try simp at hc'); simp -implicitDefEqProofs [hc, hc', ex, hn1, hn2, ed])) | (with_reducible refine cdK_em (fun hc => ?_) (fun hc => ?_) <;> (have hc' := hc; (try simp at hc'); simp -implicitDefEqProofs [hc, hc', ex, hn1, hn2, ed])) | (with_reducible refine pickK_em (fun hc => ?_) (fun hc => ?_) <;> (have hc' := hc; (try simp at hc'); simp -implicitDefEqProofs [hc, hc', ex, hn1, hn2, ed])) | (with_reducible apply callK_pure <;> first | (simp only [eras, era, eras_map]; first | with_reducible exact (w_begin _) | simpa using (w_begin _)) | (simp -implicitDefEqProofs [ex, hn1, hn2, ed])))
    refine loop_rule (X := Nat) (fun k => (k : Int) + 1 ≤ m) (fun k => [(2, vI x), (3, vI (k + 1)), (4, vI (t - bgn x - msum x k))]) (fun _ => ⟨[], []⟩) (fun k => m.toNat - k) 0 (by omega) (by simp [msum]) ?_
    intro k hk hbd
    have hms := msum_bounds x k
    have hdk := days_le x (k + 1)
    by_cases hlt : (k : Int) + 1 < m
    · have hge : days x (k + 1) ≤ t - bgn x - msum x k := by
        have := msum_mono x (show k + 1 ≤ (m - 1).toNat by omega)
        simp only [msum] at this
        omega
      have e2 : IntKind.i64.wrap (t - bgn x - msum x k - days x (k + 1)) = t - bgn x - msum x (k + 1) := by rw [wrap64 (by omega) (by omega)]; simp only [msum]; omega
      have e3 : IntKind.i64.wrap ((k : Int) + 1 + 1) = (k : Int) + 1 + 1 := wrap64 (by omega) (by omega)
      ((try simp -implicitDefEqProofs [hge]); repeat' first | (with_reducible refine gdK_em (fun hc => ?_) (fun hc => ?_) <;> (have hc' := hc; (try simp at hc'); simp -implicitDefEqProofs [hc, hc', hge])) | (with_reducible refine cdK_em (fun hc => ?_) (fun hc => ?_) <;> (have hc' := hc; (try simp at hc'); simp -implicitDefEqProofs [hc, hc', hge])) | (with_reducible refine pickK_em (fun hc => ?_) (fun hc => ?_) <;> (have hc' := hc; (try simp at hc'); simp -implicitDefEqProofs [hc, hc', hge])) | (with_reducible apply callK_pure <;> first | (simp only [eras, era, eras_map]; first | with_reducible exact (w_days _ _) | simpa using (w_days _ _)) | (simp -implicitDefEqProofs [hge])))
      exact ⟨k + 1, by omega, by omega, by rw [e3]; omega, e2.symm⟩
    · have hk2 : (k : Int) + 1 = m := by omega
      have hk3 : k = (m - 1).toNat := by omega
      have hge : ¬ days x (k + 1) ≤ t - bgn x - msum x k := by
        rw [hk2, hk3]; omega
      have e4 : IntKind.i64.wrap (t - bgn x - msum x k + 1) = d := by rw [wrap64 (by omega) (by omega), hk3]; omega
      ((try simp -implicitDefEqProofs [hge]); repeat' first | (with_reducible refine gdK_em (fun hc => ?_) (fun hc => ?_) <;> (have hc' := hc; (try simp at hc'); simp -implicitDefEqProofs [hc, hc', hge])) | (with_reducible refine cdK_em (fun hc => ?_) (fun hc => ?_) <;> (have hc' := hc; (try simp at hc'); simp -implicitDefEqProofs [hc, hc', hge])) | (with_reducible refine pickK_em (fun hc => ?_) (fun hc => ?_) <;> (have hc' := hc; (try simp at hc'); simp -implicitDefEqProofs [hc, hc', hge])) | (with_reducible apply callK_pure <;> first | (simp only [eras, era, eras_map]; first | with_reducible exact (w_days _ _) | simpa using (w_days _ _)) | (simp -implicitDefEqProofs [hge])))
      exact ⟨by omega, e4.symm⟩

theorem w_rCivil (y m d : Int) (h : Day y m d) : Pure Try.prog 47 [vI (dateOf y m d)] (.tup [vI y, vI m, vI d, vI 0]) := by
  have hdv := h.dvalid
  obtain ⟨b1, b2, b3, b4⟩ := h.bounds
  have hdef : dateOf y m d = bgn y + msum y (m - 1).toNat + d - 1 := rfl
  obtain ⟨h1, h2, h3, h4, h5, h6⟩ := h
  generalize dateOf y m d = t at *
  have bb1 := bgn_bounds (y := y) h1 (by omega)
  have bb2 := bgn_bounds (y := y + 1) (by omega) (by omega)
  have e0 : IntKind.i64.wrap (t - -25567) = t - bgn 1900 := by rw [wrap64 (by omega) (by omega)]; simp [bgn]
  have e0' : IntKind.i64.wrap (t + 25567) = t - bgn 1900 := by rw [wrap64 (by omega) (by omega)]; simp [bgn]
  (refine Pure.of_code mix Try.call47 k_47 (by simp) (fun hB => ?_); (try simp at hB); (try simp -implicitDefEqProofs [c_tallystoneref06_Civil_47]))
  ((try simp -implicitDefEqProofs [hdv, e0, e0']); repeat' first | (with_reducible refine gdK_em (fun hc => ?_) (fun hc => ?_) <;> (have hc' := hc; (try simp at hc'); simp -implicitDefEqProofs [hc, hc', hdv, e0, e0'])) | (with_reducible refine cdK_em (fun hc => ?_) (fun hc => ?_) <;> (have hc' := hc; (try simp at hc'); simp -implicitDefEqProofs [hc, hc', hdv, e0, e0'])) | (with_reducible refine pickK_em (fun hc => ?_) (fun hc => ?_) <;> (have hc' := hc; (try simp at hc'); simp -implicitDefEqProofs [hc, hc', hdv, e0, e0'])) | (with_reducible apply callK_pure <;> first | (simp only [eras, era, eras_map]; first | with_reducible exact (w_rdvalid _) | simpa using (w_rdvalid _)) | (simp -implicitDefEqProofs [hdv, e0, e0'])))
  try rw [e0]
  refine loop_rule (X := Nat) (fun k => 1900 + (k : Int) ≤ y) (fun k => [(6, vI (1900 + k)), (7, vI 1), (8, vI (t - bgn (1900 + k)))]) (fun _ => ⟨[], []⟩) (fun k => y.toNat - k) 0 (by omega) (by simp [e0, e0']) ?_
  intro k hk hbd
  have hbk := bgn_bounds (y := 1900 + k) (by omega) (by omega)
  have hn := bgn_next (y := 1900 + k) (by omega)
  have hle := bgn_mono hk (by omega)
  by_cases hlt : 1900 + (k : Int) < y
  · have hge := bgn_mono (show 1900 + (k : Int) + 1 ≤ y by omega) (by omega)
    have e3 : IntKind.i64.wrap (1900 + (k : Int) + 1) = 1900 + (k : Int) + 1 := wrap64 (by omega) (by omega)
    have e4 : IntKind.i64.wrap (t - bgn (1900 + k) - 365) = t - bgn (1900 + k) - 365 := wrap64 (by omega) (by omega)
    have e5 : IntKind.i64.wrap (t - bgn (1900 + k) - 365 - 1) = t - bgn (1900 + k) - 366 := by rw [wrap64 (by omega) (by omega)]; omega
    by_cases hl : leap (1900 + k) = true
    · rw [if_pos hl] at hn
      have c1 : 366 ≤ t - bgn (1900 + k) := by omega
      ((try simp -implicitDefEqProofs [hl, c1, e3, e4, e5]); repeat' first | (with_reducible refine gdK_em (fun hc => ?_) (fun hc => ?_) <;> (have hc' := hc; (try simp at hc'); simp -implicitDefEqProofs [hc, hc', hl, c1, e3, e4, e5])) | (with_reducible refine cdK_em (fun hc => ?_) (fun hc => ?_) <;> (have hc' := hc; (try simp at hc'); simp -implicitDefEqProofs [hc, hc', hl, c1, e3, e4, e5])) | (with_reducible refine pickK_em (fun hc => ?_) (fun hc => ?_) <;> (have hc' := hc; (try simp at hc'); simp -implicitDefEqProofs [hc, hc', hl, c1, e3, e4, e5])) | (with_reducible apply callK_pure <;> first | (simp only [eras, era, eras_map]; first | with_reducible exact (w_rleap _) | simpa using (w_rleap _)) | (simp -implicitDefEqProofs [hl, c1, e3, e4, e5])))
      exact ⟨k + 1, by omega, by omega, by omega, by rw [show (1900 : Int) + ((k + 1 : Nat) : Int) = 1900 + k + 1 from by omega, hn]; omega⟩
    · have hl' : leap (1900 + k) = false := by simpa using hl
      rw [if_neg hl] at hn
      have c1 : 365 ≤ t - bgn (1900 + k) := by omega
      ((try simp -implicitDefEqProofs [hl', c1, e3, e4, e5]); repeat' first | (with_reducible refine gdK_em (fun hc => ?_) (fun hc => ?_) <;> (have hc' := hc; (try simp at hc'); simp -implicitDefEqProofs [hc, hc', hl', c1, e3, e4, e5])) | (with_reducible refine cdK_em (fun hc => ?_) (fun hc => ?_) <;> (have hc' := hc; (try simp at hc'); simp -implicitDefEqProofs [hc, hc', hl', c1, e3, e4, e5])) | (with_reducible refine pickK_em (fun hc => ?_) (fun hc => ?_) <;> (have hc' := hc; (try simp at hc'); simp -implicitDefEqProofs [hc, hc', hl', c1, e3, e4, e5])) | (with_reducible apply callK_pure <;> first | (simp only [eras, era, eras_map]; first | with_reducible exact (w_rleap _) | simpa using (w_rleap _)) | (simp -implicitDefEqProofs [hl', c1, e3, e4, e5])))
      exact ⟨k + 1, by omega, by omega, by omega, by rw [show (1900 : Int) + ((k + 1 : Nat) : Int) = 1900 + k + 1 from by omega, hn]; omega⟩
  · have hk2 : 1900 + (k : Int) = y := by omega
    rw [hk2] at hn ⊢
    have hstop : leap y = true ∧ ¬ 366 ≤ t - bgn y ∨ leap y = false ∧ ¬ 365 ≤ t - bgn y := by
      by_cases hl : leap y = true
      · rw [if_pos hl] at hn; exact .inl ⟨hl, by omega⟩
      · rw [if_neg hl] at hn; exact .inr ⟨by simpa using hl, by omega⟩
    rcases hstop with ⟨hl, c1⟩ | ⟨hl, c1⟩
    all_goals
      ((try simp -implicitDefEqProofs [hl, c1]); repeat' first | (with_reducible refine gdK_em (fun hc => ?_) (fun hc => ?_) <;> (have hc' := hc; (try simp at hc'); simp -implicitDefEqProofs [hc, hc', hl, c1])) | (with_reducible refine cdK_em (fun hc => ?_) (fun hc => ?_) <;> (have hc' := hc; (try simp at hc'); simp -implicitDefEqProofs [hc, hc', hl, c1])) | (with_reducible refine pickK_em (fun hc => ?_) (fun hc => ?_) <;> (have hc' := hc; (try simp at hc'); simp -implicitDefEqProofs [hc, hc', hl, c1])) | (with_reducible apply callK_pure <;> first | (simp only [eras, era, eras_map]; first | with_reducible exact (w_rleap _) | simpa using (w_rleap _)) | (simp -implicitDefEqProofs [hl, c1])))
      refine loop_rule (X := Nat) (fun k => (k : Int) + 1 ≤ m) (fun k => [(6, vI y), (7, vI (k + 1)), (8, vI (t - bgn y - msum y k))]) (fun _ => ⟨[], []⟩) (fun k => m.toNat - k) 0 (by omega) (by simp [msum]) ?_
      intro k hk hbd
      have hms := msum_bounds y k
      have hdk := days_le y (k + 1)
      by_cases hlt : (k : Int) + 1 < m
      · have hge : days y (k + 1) ≤ t - bgn y - msum y k := by
          have := msum_mono y (show k + 1 ≤ (m - 1).toNat by omega)
          simp only [msum] at this
          omega
        have e2 : IntKind.i64.wrap (t - bgn y - msum y k - days y (k + 1)) = t - bgn y - msum y (k + 1) := by rw [wrap64 (by omega) (by omega)]; simp only [msum]; omega
        have e3 : IntKind.i64.wrap ((k : Int) + 1 + 1) = (k : Int) + 1 + 1 := wrap64 (by omega) (by omega)
        ((try simp -implicitDefEqProofs [hge]); repeat' first | (with_reducible refine gdK_em (fun hc => ?_) (fun hc => ?_) <;> (have hc' := hc; (try simp at hc'); simp -implicitDefEqProofs [hc, hc', hge])) | (with_reducible refine cdK_em (fun hc => ?_) (fun hc => ?_) <;> (have hc' := hc; (try simp at hc'); simp -implicitDefEqProofs [hc, hc', hge])) | (with_reducible refine pickK_em (fun hc => ?_) (fun hc => ?_) <;> (have hc' := hc; (try simp at hc'); simp -implicitDefEqProofs [hc, hc', hge])) | (with_reducible apply callK_pure <;> first | (simp only [eras, era, eras_map]; first | with_reducible exact (w_rdays _ _) | simpa using (w_rdays _ _)) | (simp -implicitDefEqProofs [hge])))
        exact ⟨k + 1, by omega, by omega, by rw [e3]; omega, e2.symm⟩
      · have hk2 : (k : Int) + 1 = m := by omega
        have hk3 : k = (m - 1).toNat := by omega
        have hge : ¬ days y (k + 1) ≤ t - bgn y - msum y k := by
          rw [hk2, hk3]; omega
        have e4 : IntKind.i64.wrap (t - bgn y - msum y k + 1) = d := by rw [wrap64 (by omega) (by omega), hk3]; omega
        ((try simp -implicitDefEqProofs [hge]); repeat' first | (with_reducible refine gdK_em (fun hc => ?_) (fun hc => ?_) <;> (have hc' := hc; (try simp at hc'); simp -implicitDefEqProofs [hc, hc', hge])) | (with_reducible refine cdK_em (fun hc => ?_) (fun hc => ?_) <;> (have hc' := hc; (try simp at hc'); simp -implicitDefEqProofs [hc, hc', hge])) | (with_reducible refine pickK_em (fun hc => ?_) (fun hc => ?_) <;> (have hc' := hc; (try simp at hc'); simp -implicitDefEqProofs [hc, hc', hge])) | (with_reducible apply callK_pure <;> first | (simp only [eras, era, eras_map]; first | with_reducible exact (w_rdays _ _) | simpa using (w_rdays _ _)) | (simp -implicitDefEqProofs [hge])))
        exact ⟨by omega, e4.symm⟩

/-! ### calendars -/
def mon (c : Cal) (p : Int) : Int := 12 * c.year + c.month - 1 + p
def calOk (c : Cal) : Prop := 1 ≤ c.month ∧ c.month ≤ 12 ∧ 1 ≤ c.periods ∧ c.periods ≤ 120 ∧ 1900 ≤ c.year ∧ c.year ≤ 2199 ∧ mon c (c.periods - 1) / 12 ≤ 2199
def calV (c : Cal) : Bool := decide (1 ≤ c.month) && decide (c.month ≤ 12) && decide (1 ≤ c.periods) && decide (c.periods ≤ 120) && decide (1900 ≤ c.year) && decide (c.year ≤ 2199) && decide (mon c (c.periods - 1) / 12 ≤ 2199)
theorem calV_iff (c : Cal) : calV c = true ↔ calOk c := by simp [calV, calOk, and_assoc]
def firstD (c : Cal) (p : Int) : Int := dateOf (mon c p / 12) (mon c p % 12 + 1) 1
def lastD (c : Cal) (p : Int) : Int := firstD c p + days (mon c p / 12) (mon c p % 12 + 1) - 1
theorem mon_day {n : Int} (h1 : 1900 ≤ n / 12) (h2 : n / 12 ≤ 2199) : Day (n / 12) (n % 12 + 1) 1 := by
  have := days_pos (y := n / 12) (m := n % 12 + 1) (by omega)
  exact ⟨h1, h2, by omega, by omega, by omega, by omega⟩

theorem w_cfirst (c : Cal) (p : Int) (h1 : 1 ≤ c.month) (h2 : c.month ≤ 12) (h3 : 1900 ≤ c.year) (h4 : c.year ≤ 2199) (h5 : 0 ≤ p) (h6 : p ≤ 120) :
    Pure Try.prog 77 [c.v, vI p] (if mon c p / 12 ≤ 2199 then .tup [vI (firstD c p), vI 0] else .tup [vI 0, vI 2]) := by
  have e : IntKind.i64.wrap (IntKind.i64.wrap (IntKind.i64.wrap (IntKind.i64.wrap (12 * c.year) + c.month) - 1) + p) = mon c p := by
    rw [wrap64 (x := 12 * c.year) (by omega) (by omega), wrap64 (x := 12 * c.year + c.month) (by omega) (by omega), wrap64 (x := 12 * c.year + c.month - 1) (by omega) (by omega), wrap64 (by omega) (by omega)]; rfl
  have hm : mon c p = 12 * c.year + c.month - 1 + p := rfl
  have e1 : IntKind.i64.wrap ((mon c p).tdiv 12) = mon c p / 12 := by rw [Int.tdiv_eq_ediv_of_nonneg (by omega), wrap64 (by omega) (by omega)]
  have e2 : IntKind.i64.wrap ((mon c p).tmod 12 + 1) = mon c p % 12 + 1 := by rw [Int.tmod_eq_emod_of_nonneg (by omega), wrap64 (by omega) (by omega)]
  by_cases h : mon c p / 12 ≤ 2199
  · rw [if_pos h]
    (refine Pure.of_code mix Try.call77 k_77 (by simp) (fun hB => ?_); (try simp at hB); (try simp -implicitDefEqProofs [c_calendar_first_77, e, e1, e2]))
    ((try simp -implicitDefEqProofs); repeat' first | (with_reducible refine gdK_em (fun hc => ?_) (fun hc => ?_) <;> (have hc' := hc; (try simp at hc'); simp -implicitDefEqProofs [hc, hc'])) | (with_reducible refine cdK_em (fun hc => ?_) (fun hc => ?_) <;> (have hc' := hc; (try simp at hc'); simp -implicitDefEqProofs [hc, hc'])) | (with_reducible refine pickK_em (fun hc => ?_) (fun hc => ?_) <;> (have hc' := hc; (try simp at hc'); simp -implicitDefEqProofs [hc, hc'])) | (with_reducible apply callK_pure <;> first | (simp only [eras, era, eras_map]; first | with_reducible exact (w_Of _ _ _ (mon_day (by omega) h)) | simpa using (w_Of _ _ _ (mon_day (by omega) h))) | (simp -implicitDefEqProofs)))
    rfl
  · rw [if_neg h]
    have ho : ¬ Day (mon c p / 12) (mon c p % 12 + 1) 1 := fun hd => h hd.2.1
    (refine Pure.of_code mix Try.call77 k_77 (by simp) (fun hB => ?_); (try simp at hB); (try simp -implicitDefEqProofs [c_calendar_first_77, e, e1, e2]))
    ((try simp -implicitDefEqProofs); repeat' first | (with_reducible refine gdK_em (fun hc => ?_) (fun hc => ?_) <;> (have hc' := hc; (try simp at hc'); simp -implicitDefEqProofs [hc, hc'])) | (with_reducible refine cdK_em (fun hc => ?_) (fun hc => ?_) <;> (have hc' := hc; (try simp at hc'); simp -implicitDefEqProofs [hc, hc'])) | (with_reducible refine pickK_em (fun hc => ?_) (fun hc => ?_) <;> (have hc' := hc; (try simp at hc'); simp -implicitDefEqProofs [hc, hc'])) | (with_reducible apply callK_pure <;> first | (simp only [eras, era, eras_map]; first | with_reducible exact (w_Of_out _ _ _ ho) | simpa using (w_Of_out _ _ _ ho)) | (simp -implicitDefEqProofs)))
end Go.Proofs.Ythfnaaeddlnckaa
end

/- Walks of the dates and the calendars, fourth part. -/
section
set_option linter.unusedSimpArgs false
set_option linter.unusedVariables false
set_option maxHeartbeats 400000
set_option maxRecDepth 8000
namespace Go.Proofs.Ythfnaaeddlnckaa
open E

theorem w_calV (c : Cal) : Pure Try.prog 73 [c.v] (vB (calV c)) := by
  by_cases h : 1 ≤ c.month ∧ c.month ≤ 12 ∧ 1 ≤ c.periods ∧ c.periods ≤ 120 ∧ 1900 ≤ c.year ∧ c.year ≤ 2199
  · obtain ⟨h1, h2, h3, h4, h5, h6⟩ := h
    have g1 : ¬ c.month < 1 := by omega
    have g2 : ¬ 12 < c.month := by omega
    have g3 : ¬ c.periods < 1 := by omega
    have g4 : ¬ 120 < c.periods := by omega
    have g5 : ¬ c.year < 1900 := by omega
    have g6 : ¬ 2199 < c.year := by omega
    have e0 : IntKind.i64.wrap (c.periods - 1) = c.periods - 1 := wrap64 (by omega) (by omega)
    have hf := w_cfirst c (c.periods - 1) h1 h2 h5 h6 (by omega) (by omega)
    by_cases h7 : mon c (c.periods - 1) / 12 ≤ 2199
    · rw [if_pos h7] at hf
      have hv : calV c = true := (calV_iff c).2 ⟨h1, h2, h3, h4, h5, h6, h7⟩
      rw [hv]
      (refine Pure.of_code mix Try.call73 k_73 (by simp) (fun hB => ?_); (try simp at hB); (try simp -implicitDefEqProofs [c_calendar_Valid_73, g1, g2, g3, g4, g5, g6, e0]))
      ((try simp at hf); (try simp -implicitDefEqProofs [g1, g2, g3, g4, g5, g6, e0]); repeat' first | (with_reducible refine gdK_em (fun hc => ?_) (fun hc => ?_) <;> (have hc' := hc; (try simp at hc'); simp -implicitDefEqProofs [hc, hc', g1, g2, g3, g4, g5, g6, e0])) | (with_reducible refine cdK_em (fun hc => ?_) (fun hc => ?_) <;> (have hc' := hc; (try simp at hc'); simp -implicitDefEqProofs [hc, hc', g1, g2, g3, g4, g5, g6, e0])) | (with_reducible refine pickK_em (fun hc => ?_) (fun hc => ?_) <;> (have hc' := hc; (try simp at hc'); simp -implicitDefEqProofs [hc, hc', g1, g2, g3, g4, g5, g6, e0])) | (with_reducible apply callK_pure <;> first | (simp only [eras, era, eras_map]; first | with_reducible exact hf | simpa using hf) | (simp -implicitDefEqProofs [g1, g2, g3, g4, g5, g6, e0])))
    · rw [if_neg h7] at hf
      have hv : calV c = false := by simpa using mt (calV_iff c).1 (fun hh => h7 hh.2.2.2.2.2.2)
      rw [hv]
      (refine Pure.of_code mix Try.call73 k_73 (by simp) (fun hB => ?_); (try simp at hB); (try simp -implicitDefEqProofs [c_calendar_Valid_73, g1, g2, g3, g4, g5, g6, e0]))
      ((try simp at hf); (try simp -implicitDefEqProofs [g1, g2, g3, g4, g5, g6, e0]); repeat' first | (with_reducible refine gdK_em (fun hc => ?_) (fun hc => ?_) <;> (have hc' := hc; (try simp at hc'); simp -implicitDefEqProofs [hc, hc', g1, g2, g3, g4, g5, g6, e0])) | (with_reducible refine cdK_em (fun hc => ?_) (fun hc => ?_) <;> (have hc' := hc; (try simp at hc'); simp -implicitDefEqProofs [hc, hc', g1, g2, g3, g4, g5, g6, e0])) | (with_reducible refine pickK_em (fun hc => ?_) (fun hc => ?_) <;> (have hc' := hc; (try simp at hc'); simp -implicitDefEqProofs [hc, hc', g1, g2, g3, g4, g5, g6, e0])) | (with_reducible apply callK_pure <;> first | (simp only [eras, era, eras_map]; first | with_reducible exact hf | simpa using hf) | (simp -implicitDefEqProofs [g1, g2, g3, g4, g5, g6, e0])))
  · have hv : calV c = false := by simpa using mt (calV_iff c).1 (fun hh => h ⟨hh.1, hh.2.1, hh.2.2.1, hh.2.2.2.1, hh.2.2.2.2.1, hh.2.2.2.2.2.1⟩)
    rw [hv]
    (refine Pure.of_code mix Try.call73 k_73 (by simp) (fun hB => ?_); (try simp at hB); (try simp -implicitDefEqProofs [c_calendar_Valid_73]))
    ((try simp -implicitDefEqProofs); repeat' first | (with_reducible refine gdK_em (fun hc => ?_) (fun hc => ?_) <;> (have hc' := hc; (try simp at hc'); simp -implicitDefEqProofs [hc, hc'])) | (with_reducible refine cdK_em (fun hc => ?_) (fun hc => ?_) <;> (have hc' := hc; (try simp at hc'); simp -implicitDefEqProofs [hc, hc'])) | (with_reducible refine pickK_em (fun hc => ?_) (fun hc => ?_) <;> (have hc' := hc; (try simp at hc'); simp -implicitDefEqProofs [hc, hc'])))
    all_goals (exfalso; omega)

theorem mon_first {c : Cal} (h : calV c = true) {p : Int} (h0 : 0 ≤ p) (hp : p < c.periods) : 1900 ≤ mon c p / 12 ∧ mon c p / 12 ≤ 2199 := by
  obtain ⟨h1, h2, h3, h4, h5, h6, h7⟩ := (calV_iff c).1 h
  have hm : mon c p = 12 * c.year + c.month - 1 + p := rfl
  have hm2 : mon c (c.periods - 1) = 12 * c.year + c.month - 1 + (c.periods - 1) := rfl
  omega

def firstS (c : Cal) (p : Int) : Int × Int := if calV c = true then (if p < 0 ∨ c.periods ≤ p then (0, 2) else (firstD c p, 0)) else (0, 1)
def lastS (c : Cal) (p : Int) : Int × Int := if calV c = true then (if p < 0 ∨ c.periods ≤ p then (0, 2) else (lastD c p, 0)) else (0, 1)
def checkS (c : Cal) (p : Int) : Int := if calV c = true then (if p < 0 ∨ c.periods ≤ p then 2 else 0) else 1

theorem w_ccheck (c : Cal) (p : Int) : Pure Try.prog 76 [c.v, vI p] (vI (checkS c p)) := by
  have hc := w_calV c
  simp at hc
  cases hv : calV c
  · rw [hv] at hc
    have e : checkS c p = 1 := by simp [checkS, hv]
    rw [e]
    (refine Pure.of_code mix Try.call76 k_76 (by simp) (fun hB => ?_); (try simp at hB); (try simp -implicitDefEqProofs [c_calendar_check_76]))
    ((try simp at hc); (try simp -implicitDefEqProofs); repeat' first | (with_reducible refine gdK_em (fun hc => ?_) (fun hc => ?_) <;> (have hc' := hc; (try simp at hc'); simp -implicitDefEqProofs [hc, hc'])) | (with_reducible refine cdK_em (fun hc => ?_) (fun hc => ?_) <;> (have hc' := hc; (try simp at hc'); simp -implicitDefEqProofs [hc, hc'])) | (with_reducible refine pickK_em (fun hc => ?_) (fun hc => ?_) <;> (have hc' := hc; (try simp at hc'); simp -implicitDefEqProofs [hc, hc'])) | (with_reducible apply callK_pure <;> first | (simp only [eras, era, eras_map]; first | with_reducible exact hc | simpa using hc) | (simp -implicitDefEqProofs)))
  · rw [hv] at hc
    by_cases h : p < 0 ∨ c.periods ≤ p
    · have e : checkS c p = 2 := by simp [checkS, hv, h]
      rw [e]
      (refine Pure.of_code mix Try.call76 k_76 (by simp) (fun hB => ?_); (try simp at hB); (try simp -implicitDefEqProofs [c_calendar_check_76]))
      ((try simp at hc); (try simp -implicitDefEqProofs); repeat' first | (with_reducible refine gdK_em (fun hc => ?_) (fun hc => ?_) <;> (have hc' := hc; (try simp at hc'); simp -implicitDefEqProofs [hc, hc'])) | (with_reducible refine cdK_em (fun hc => ?_) (fun hc => ?_) <;> (have hc' := hc; (try simp at hc'); simp -implicitDefEqProofs [hc, hc'])) | (with_reducible refine pickK_em (fun hc => ?_) (fun hc => ?_) <;> (have hc' := hc; (try simp at hc'); simp -implicitDefEqProofs [hc, hc'])) | (with_reducible apply callK_pure <;> first | (simp only [eras, era, eras_map]; first | with_reducible exact hc | simpa using hc) | (simp -implicitDefEqProofs)))
      all_goals (exfalso; omega)
    · have e : checkS c p = 0 := by simp [checkS, hv, h]
      rw [e]
      (refine Pure.of_code mix Try.call76 k_76 (by simp) (fun hB => ?_); (try simp at hB); (try simp -implicitDefEqProofs [c_calendar_check_76]))
      ((try simp at hc); (try simp -implicitDefEqProofs); repeat' first | (with_reducible refine gdK_em (fun hc => ?_) (fun hc => ?_) <;> (have hc' := hc; (try simp at hc'); simp -implicitDefEqProofs [hc, hc'])) | (with_reducible refine cdK_em (fun hc => ?_) (fun hc => ?_) <;> (have hc' := hc; (try simp at hc'); simp -implicitDefEqProofs [hc, hc'])) | (with_reducible refine pickK_em (fun hc => ?_) (fun hc => ?_) <;> (have hc' := hc; (try simp at hc'); simp -implicitDefEqProofs [hc, hc'])) | (with_reducible apply callK_pure <;> first | (simp only [eras, era, eras_map]; first | with_reducible exact hc | simpa using hc) | (simp -implicitDefEqProofs)))
      all_goals (exfalso; omega)

theorem w_First (c : Cal) (p : Int) : Pure Try.prog 54 [c.v, vI p] (.tup [vI (firstS c p).1, vI (firstS c p).2]) := by
  have hc := w_ccheck c p
  simp at hc
  by_cases hv : calV c = true
  · by_cases h : p < 0 ∨ c.periods ≤ p
    · simp only [checkS, firstS, if_pos hv, if_pos h] at hc ⊢
      (refine Pure.of_code mix Try.call54 k_54 (by simp) (fun hB => ?_); (try simp at hB); (try simp -implicitDefEqProofs [c_calendar_First_54]))
      ((try simp at hc); (try simp -implicitDefEqProofs); repeat' first | (with_reducible refine gdK_em (fun hc => ?_) (fun hc => ?_) <;> (have hc' := hc; (try simp at hc'); simp -implicitDefEqProofs [hc, hc'])) | (with_reducible refine cdK_em (fun hc => ?_) (fun hc => ?_) <;> (have hc' := hc; (try simp at hc'); simp -implicitDefEqProofs [hc, hc'])) | (with_reducible refine pickK_em (fun hc => ?_) (fun hc => ?_) <;> (have hc' := hc; (try simp at hc'); simp -implicitDefEqProofs [hc, hc'])) | (with_reducible apply callK_pure <;> first | (simp only [eras, era, eras_map]; first | with_reducible exact hc | simpa using hc) | (simp -implicitDefEqProofs)))
    · have hm := mon_first hv (p := p) (by omega) (by omega)
      obtain ⟨h1, h2, h3, h4, h5, h6, h7⟩ := (calV_iff c).1 hv
      have hf := w_cfirst c p h1 h2 h5 h6 (by omega) (by omega)
      rw [if_pos hm.2] at hf
      simp at hf
      simp only [checkS, firstS, if_pos hv, if_neg h] at hc ⊢
      (refine Pure.of_code mix Try.call54 k_54 (by simp) (fun hB => ?_); (try simp at hB); (try simp -implicitDefEqProofs [c_calendar_First_54]))
      ((try simp at hc); (try simp at hf); (try simp -implicitDefEqProofs); repeat' first | (with_reducible refine gdK_em (fun hc => ?_) (fun hc => ?_) <;> (have hc' := hc; (try simp at hc'); simp -implicitDefEqProofs [hc, hc'])) | (with_reducible refine cdK_em (fun hc => ?_) (fun hc => ?_) <;> (have hc' := hc; (try simp at hc'); simp -implicitDefEqProofs [hc, hc'])) | (with_reducible refine pickK_em (fun hc => ?_) (fun hc => ?_) <;> (have hc' := hc; (try simp at hc'); simp -implicitDefEqProofs [hc, hc'])) | (with_reducible apply callK_pure <;> first | (simp only [eras, era, eras_map]; first | with_reducible exact hc | simpa using hc) | (simp -implicitDefEqProofs)) | (with_reducible apply callK_pure <;> first | (simp only [eras, era, eras_map]; first | with_reducible exact hf | simpa using hf) | (simp -implicitDefEqProofs)))
  · simp only [checkS, firstS, if_neg hv] at hc ⊢
    (refine Pure.of_code mix Try.call54 k_54 (by simp) (fun hB => ?_); (try simp at hB); (try simp -implicitDefEqProofs [c_calendar_First_54]))
    ((try simp at hc); (try simp -implicitDefEqProofs); repeat' first | (with_reducible refine gdK_em (fun hc => ?_) (fun hc => ?_) <;> (have hc' := hc; (try simp at hc'); simp -implicitDefEqProofs [hc, hc'])) | (with_reducible refine cdK_em (fun hc => ?_) (fun hc => ?_) <;> (have hc' := hc; (try simp at hc'); simp -implicitDefEqProofs [hc, hc'])) | (with_reducible refine pickK_em (fun hc => ?_) (fun hc => ?_) <;> (have hc' := hc; (try simp at hc'); simp -implicitDefEqProofs [hc, hc'])) | (with_reducible apply callK_pure <;> first | (simp only [eras, era, eras_map]; first | with_reducible exact hc | simpa using hc) | (simp -implicitDefEqProofs)))

theorem w_Last (c : Cal) (p : Int) : Pure Try.prog 55 [c.v, vI p] (.tup [vI (lastS c p).1, vI (lastS c p).2]) := by
  have hf := w_First c p
  by_cases hv : calV c = true
  · by_cases h : p < 0 ∨ c.periods ≤ p
    · simp only [lastS, firstS, if_pos hv, if_pos h] at hf ⊢
      simp at hf
      (refine Pure.of_code mix Try.call55 k_55 (by simp) (fun hB => ?_); (try simp at hB); (try simp -implicitDefEqProofs [c_calendar_Last_55]))
      ((try simp at hf); (try simp -implicitDefEqProofs); repeat' first | (with_reducible refine gdK_em (fun hc => ?_) (fun hc => ?_) <;> (have hc' := hc; (try simp at hc'); simp -implicitDefEqProofs [hc, hc'])) | (with_reducible refine cdK_em (fun hc => ?_) (fun hc => ?_) <;> (have hc' := hc; (try simp at hc'); simp -implicitDefEqProofs [hc, hc'])) | (with_reducible refine pickK_em (fun hc => ?_) (fun hc => ?_) <;> (have hc' := hc; (try simp at hc'); simp -implicitDefEqProofs [hc, hc'])) | (with_reducible apply callK_pure <;> first | (simp only [eras, era, eras_map]; first | with_reducible exact hf | simpa using hf) | (simp -implicitDefEqProofs)))
    · have hm := mon_first hv (p := p) (by omega) (by omega)
      have hday := mon_day hm.1 hm.2
      have hci := w_Civil _ _ _ hday
      have hb := hday.bounds
      have bb1 := bgn_bounds (y := mon c p / 12) hm.1 (by omega)
      have bb2 := bgn_bounds (y := mon c p / 12 + 1) (by omega) (by omega)
      have hd := days_le (mon c p / 12) (mon c p % 12 + 1)
      have e1 : IntKind.i64.wrap (IntKind.i64.wrap (firstD c p + days (mon c p / 12) (mon c p % 12 + 1)) - 1) = lastD c p := by
        unfold firstD
        rw [wrap64 (x := dateOf _ _ _ + days _ _) (by omega) (by omega), wrap64 (by omega) (by omega)]; rfl
      simp only [lastS, firstS, if_pos hv, if_neg h] at hf ⊢
      simp at hf
      have hdd : firstD c p = dateOf (mon c p / 12) (mon c p % 12 + 1) 1 := rfl
      rw [← hdd] at hci
      (refine Pure.of_code mix Try.call55 k_55 (by simp) (fun hB => ?_); (try simp at hB); (try simp -implicitDefEqProofs [c_calendar_Last_55]))
      ((try simp at hf); (try simp at hci); (try simp -implicitDefEqProofs [e1]); repeat' first | (with_reducible refine gdK_em (fun hc => ?_) (fun hc => ?_) <;> (have hc' := hc; (try simp at hc'); simp -implicitDefEqProofs [hc, hc', e1])) | (with_reducible refine cdK_em (fun hc => ?_) (fun hc => ?_) <;> (have hc' := hc; (try simp at hc'); simp -implicitDefEqProofs [hc, hc', e1])) | (with_reducible refine pickK_em (fun hc => ?_) (fun hc => ?_) <;> (have hc' := hc; (try simp at hc'); simp -implicitDefEqProofs [hc, hc', e1])) | (with_reducible apply callK_pure <;> first | (simp only [eras, era, eras_map]; first | with_reducible exact hf | simpa using hf) | (simp -implicitDefEqProofs [e1])) | (with_reducible apply callK_pure <;> first | (simp only [eras, era, eras_map]; first | with_reducible exact hci | simpa using hci) | (simp -implicitDefEqProofs [e1])) | (with_reducible apply callK_pure <;> first | (simp only [eras, era, eras_map]; first | with_reducible exact (w_days _ _) | simpa using (w_days _ _)) | (simp -implicitDefEqProofs [e1])))
  · simp only [lastS, firstS, if_neg hv] at hf ⊢
    simp at hf
    (refine Pure.of_code mix Try.call55 k_55 (by simp) (fun hB => ?_); (try simp at hB); (try simp -implicitDefEqProofs [c_calendar_Last_55]))
    ((try simp at hf); (try simp -implicitDefEqProofs); repeat' first | (with_reducible refine gdK_em (fun hc => ?_) (fun hc => ?_) <;> (have hc' := hc; (try simp at hc'); simp -implicitDefEqProofs [hc, hc'])) | (with_reducible refine cdK_em (fun hc => ?_) (fun hc => ?_) <;> (have hc' := hc; (try simp at hc'); simp -implicitDefEqProofs [hc, hc'])) | (with_reducible refine pickK_em (fun hc => ?_) (fun hc => ?_) <;> (have hc' := hc; (try simp at hc'); simp -implicitDefEqProofs [hc, hc'])) | (with_reducible apply callK_pure <;> first | (simp only [eras, era, eras_map]; first | with_reducible exact hf | simpa using hf) | (simp -implicitDefEqProofs)))
end Go.Proofs.Ythfnaaeddlnckaa
end

/- Walks of the reference's dates and calendars. -/
section
set_option linter.unusedSimpArgs false
set_option linter.unusedVariables false
set_option maxHeartbeats 400000
set_option maxRecDepth 8000
namespace Go.Proofs.Ythfnaaeddlnckaa
open E

theorem w_rAdd (y m p : Int) (h : 1900 ≤ y ∧ y ≤ 2199 ∧ 1 ≤ m ∧ m ≤ 12) (hp : 0 ≤ p ∧ p ≤ 120) :
    Pure Try.prog 68 [vI (dateOf y m 1), vI p] (if (12 * y + m - 1 + p) / 12 ≤ 2199 then .tup [vI (dateOf ((12 * y + m - 1 + p) / 12) ((12 * y + m - 1 + p) % 12 + 1) 1), vI 0] else .tup [vI 0, vI 2]) := by
  have hd0 := days_pos h
  have hday : Day y m 1 := ⟨h.1, h.2.1, h.2.2.1, h.2.2.2, by omega, by omega⟩
  have hci := w_rCivil _ _ _ hday
  have e : IntKind.i64.wrap (IntKind.i64.wrap (IntKind.i64.wrap (IntKind.i64.wrap (12 * y) + m) - 1) + p) = 12 * y + m - 1 + p := by
    rw [wrap64 (x := 12 * y) (by omega) (by omega), wrap64 (x := 12 * y + m) (by omega) (by omega), wrap64 (x := 12 * y + m - 1) (by omega) (by omega), wrap64 (by omega) (by omega)]
  generalize hn : 12 * y + m - 1 + p = n at *
  have e1 : IntKind.i64.wrap (n.tdiv 12) = n / 12 := by rw [Int.tdiv_eq_ediv_of_nonneg (by omega), wrap64 (by omega) (by omega)]
  have e2 : IntKind.i64.wrap (n.tmod 12 + 1) = n % 12 + 1 := by rw [Int.tmod_eq_emod_of_nonneg (by omega), wrap64 (by omega) (by omega)]
  have g1 : ¬ p < -3600 := by omega
  have g2 : ¬ 3600 < p := by omega
  have g3 : ¬ n / 12 < 1900 := by omega
  by_cases h7 : n / 12 ≤ 2199
  · rw [if_pos h7]
    have hm := mon_day (n := n) (by omega) h7
    have g4 : ¬ 2199 < n / 12 := by omega
    have g5 : min 1 (days (n / 12) (n % 12 + 1)) = 1 := by have := hm.2.2.2.2.2; omega
    have ho := w_rOf _ _ _ hm
    (refine Pure.of_code mix Try.call68 k_68 (by simp) (fun hB => ?_); (try simp at hB); (try simp -implicitDefEqProofs [c_tallystoneref06_Add_68, e, e1, e2, g1, g2, g3]))
    ((try simp at hci); (try simp at ho); (try simp -implicitDefEqProofs [e, e1, e2, g1, g2, g3, g4, g5]); repeat' first | (with_reducible refine gdK_em (fun hc => ?_) (fun hc => ?_) <;> (have hc' := hc; (try simp at hc'); simp -implicitDefEqProofs [hc, hc', e, e1, e2, g1, g2, g3, g4, g5])) | (with_reducible refine cdK_em (fun hc => ?_) (fun hc => ?_) <;> (have hc' := hc; (try simp at hc'); simp -implicitDefEqProofs [hc, hc', e, e1, e2, g1, g2, g3, g4, g5])) | (with_reducible refine pickK_em (fun hc => ?_) (fun hc => ?_) <;> (have hc' := hc; (try simp at hc'); simp -implicitDefEqProofs [hc, hc', e, e1, e2, g1, g2, g3, g4, g5])) | (with_reducible apply callK_pure <;> first | (simp only [eras, era, eras_map]; first | with_reducible exact hci | simpa using hci) | (simp -implicitDefEqProofs [e, e1, e2, g1, g2, g3, g4, g5])) | (with_reducible apply callK_pure <;> first | (simp only [eras, era, eras_map]; first | with_reducible exact (w_rdays _ _) | simpa using (w_rdays _ _)) | (simp -implicitDefEqProofs [e, e1, e2, g1, g2, g3, g4, g5])) | (with_reducible apply callK_pure <;> first | (simp only [eras, era, eras_map]; first | with_reducible exact ho | simpa using ho) | (simp -implicitDefEqProofs [e, e1, e2, g1, g2, g3, g4, g5])))
  · rw [if_neg h7]
    have g4 : 2199 < n / 12 := by omega
    (refine Pure.of_code mix Try.call68 k_68 (by simp) (fun hB => ?_); (try simp at hB); (try simp -implicitDefEqProofs [c_tallystoneref06_Add_68, e, e1, e2, g1, g2, g3]))
    ((try simp at hci); (try simp -implicitDefEqProofs [e, e1, e2, g1, g2, g3, g4]); repeat' first | (with_reducible refine gdK_em (fun hc => ?_) (fun hc => ?_) <;> (have hc' := hc; (try simp at hc'); simp -implicitDefEqProofs [hc, hc', e, e1, e2, g1, g2, g3, g4])) | (with_reducible refine cdK_em (fun hc => ?_) (fun hc => ?_) <;> (have hc' := hc; (try simp at hc'); simp -implicitDefEqProofs [hc, hc', e, e1, e2, g1, g2, g3, g4])) | (with_reducible refine pickK_em (fun hc => ?_) (fun hc => ?_) <;> (have hc' := hc; (try simp at hc'); simp -implicitDefEqProofs [hc, hc', e, e1, e2, g1, g2, g3, g4])) | (with_reducible apply callK_pure <;> first | (simp only [eras, era, eras_map]; first | with_reducible exact hci | simpa using hci) | (simp -implicitDefEqProofs [e, e1, e2, g1, g2, g3, g4])))

theorem w_r7first (c : Cal) (p : Int) (h1 : 1 ≤ c.month) (h2 : c.month ≤ 12) (h3 : 1900 ≤ c.year) (h4 : c.year ≤ 2199) (h5 : 0 ≤ p) (h6 : p ≤ 120) :
    Pure Try.prog 46 [c.v, vI p] (if mon c p / 12 ≤ 2199 then .tup [vI (firstD c p), vI 0] else .tup [vI 0, vI 2]) := by
  have hd0 := days_pos (y := c.year) (m := c.month) ⟨h3, h4, h1, h2⟩
  have ho := w_rOf c.year c.month 1 ⟨h3, h4, h1, h2, by omega, by omega⟩
  have ha := w_rAdd c.year c.month p ⟨h3, h4, h1, h2⟩ ⟨h5, h6⟩
  have hm : mon c p = 12 * c.year + c.month - 1 + p := rfl
  unfold firstD
  rw [hm]
  by_cases h : (12 * c.year + c.month - 1 + p) / 12 ≤ 2199
  · rw [if_pos h] at ha ⊢
    (refine Pure.of_code mix Try.call46 k_46 (by simp) (fun hB => ?_); (try simp at hB); (try simp -implicitDefEqProofs [c_tallystoneref07_first_46]))
    ((try simp at ho); (try simp at ha); (try simp -implicitDefEqProofs); repeat' first | (with_reducible refine gdK_em (fun hc => ?_) (fun hc => ?_) <;> (have hc' := hc; (try simp at hc'); simp -implicitDefEqProofs [hc, hc'])) | (with_reducible refine cdK_em (fun hc => ?_) (fun hc => ?_) <;> (have hc' := hc; (try simp at hc'); simp -implicitDefEqProofs [hc, hc'])) | (with_reducible refine pickK_em (fun hc => ?_) (fun hc => ?_) <;> (have hc' := hc; (try simp at hc'); simp -implicitDefEqProofs [hc, hc'])) | (with_reducible apply callK_pure <;> first | (simp only [eras, era, eras_map]; first | with_reducible exact ho | simpa using ho) | (simp -implicitDefEqProofs)) | (with_reducible apply callK_pure <;> first | (simp only [eras, era, eras_map]; first | with_reducible exact ha | simpa using ha) | (simp -implicitDefEqProofs)))
  · rw [if_neg h] at ha ⊢
    (refine Pure.of_code mix Try.call46 k_46 (by simp) (fun hB => ?_); (try simp at hB); (try simp -implicitDefEqProofs [c_tallystoneref07_first_46]))
    ((try simp at ho); (try simp at ha); (try simp -implicitDefEqProofs); repeat' first | (with_reducible refine gdK_em (fun hc => ?_) (fun hc => ?_) <;> (have hc' := hc; (try simp at hc'); simp -implicitDefEqProofs [hc, hc'])) | (with_reducible refine cdK_em (fun hc => ?_) (fun hc => ?_) <;> (have hc' := hc; (try simp at hc'); simp -implicitDefEqProofs [hc, hc'])) | (with_reducible refine pickK_em (fun hc => ?_) (fun hc => ?_) <;> (have hc' := hc; (try simp at hc'); simp -implicitDefEqProofs [hc, hc'])) | (with_reducible apply callK_pure <;> first | (simp only [eras, era, eras_map]; first | with_reducible exact ho | simpa using ho) | (simp -implicitDefEqProofs)) | (with_reducible apply callK_pure <;> first | (simp only [eras, era, eras_map]; first | with_reducible exact ha | simpa using ha) | (simp -implicitDefEqProofs)))
theorem w_r7first_out (c : Cal) (p : Int) (h : ¬ (1 ≤ c.month ∧ c.month ≤ 12 ∧ 1900 ≤ c.year ∧ c.year ≤ 2199)) : Pure Try.prog 46 [c.v, vI p] (.tup [vI 0, vI 2]) := by
  have ho := w_rOf_out c.year c.month 1 (fun hd => h ⟨hd.2.2.1, hd.2.2.2.1, hd.1, hd.2.1⟩)
  (refine Pure.of_code mix Try.call46 k_46 (by simp) (fun hB => ?_); (try simp at hB); (try simp -implicitDefEqProofs [c_tallystoneref07_first_46]))
  ((try simp at ho); (try simp -implicitDefEqProofs); repeat' first | (with_reducible refine gdK_em (fun hc => ?_) (fun hc => ?_) <;> (have hc' := hc; (try simp at hc'); simp -implicitDefEqProofs [hc, hc'])) | (with_reducible refine cdK_em (fun hc => ?_) (fun hc => ?_) <;> (have hc' := hc; (try simp at hc'); simp -implicitDefEqProofs [hc, hc'])) | (with_reducible refine pickK_em (fun hc => ?_) (fun hc => ?_) <;> (have hc' := hc; (try simp at hc'); simp -implicitDefEqProofs [hc, hc'])) | (with_reducible apply callK_pure <;> first | (simp only [eras, era, eras_map]; first | with_reducible exact ho | simpa using ho) | (simp -implicitDefEqProofs)))

theorem w_r7V (c : Cal) : Pure Try.prog 61 [c.v] (vB (calV c)) := by
  by_cases h : 1 ≤ c.periods ∧ c.periods ≤ 120
  · have g3 : ¬ c.periods < 1 := by omega
    have g4 : ¬ 120 < c.periods := by omega
    have e0 : IntKind.i64.wrap (c.periods - 1) = c.periods - 1 := wrap64 (by omega) (by omega)
    by_cases h8 : 1 ≤ c.month ∧ c.month ≤ 12 ∧ 1900 ≤ c.year ∧ c.year ≤ 2199
    · obtain ⟨h1, h2, h5, h6⟩ := h8
      have hf := w_r7first c (c.periods - 1) h1 h2 h5 h6 (by omega) (by omega)
      by_cases h7 : mon c (c.periods - 1) / 12 ≤ 2199
      · rw [if_pos h7] at hf
        have hv : calV c = true := (calV_iff c).2 ⟨h1, h2, h.1, h.2, h5, h6, h7⟩
        rw [hv]
        (refine Pure.of_code mix Try.call61 k_61 (by simp) (fun hB => ?_); (try simp at hB); (try simp -implicitDefEqProofs [c_tallystoneref07_Valid_61, g3, g4, e0]))
        ((try simp at hf); (try simp -implicitDefEqProofs [g3, g4, e0]); repeat' first | (with_reducible refine gdK_em (fun hc => ?_) (fun hc => ?_) <;> (have hc' := hc; (try simp at hc'); simp -implicitDefEqProofs [hc, hc', g3, g4, e0])) | (with_reducible refine cdK_em (fun hc => ?_) (fun hc => ?_) <;> (have hc' := hc; (try simp at hc'); simp -implicitDefEqProofs [hc, hc', g3, g4, e0])) | (with_reducible refine pickK_em (fun hc => ?_) (fun hc => ?_) <;> (have hc' := hc; (try simp at hc'); simp -implicitDefEqProofs [hc, hc', g3, g4, e0])) | (with_reducible apply callK_pure <;> first | (simp only [eras, era, eras_map]; first | with_reducible exact hf | simpa using hf) | (simp -implicitDefEqProofs [g3, g4, e0])))
      · rw [if_neg h7] at hf
        have hv : calV c = false := by simpa using mt (calV_iff c).1 (fun hh => h7 hh.2.2.2.2.2.2)
        rw [hv]
        (refine Pure.of_code mix Try.call61 k_61 (by simp) (fun hB => ?_); (try simp at hB); (try simp -implicitDefEqProofs [c_tallystoneref07_Valid_61, g3, g4, e0]))
        ((try simp at hf); (try simp -implicitDefEqProofs [g3, g4, e0]); repeat' first | (with_reducible refine gdK_em (fun hc => ?_) (fun hc => ?_) <;> (have hc' := hc; (try simp at hc'); simp -implicitDefEqProofs [hc, hc', g3, g4, e0])) | (with_reducible refine cdK_em (fun hc => ?_) (fun hc => ?_) <;> (have hc' := hc; (try simp at hc'); simp -implicitDefEqProofs [hc, hc', g3, g4, e0])) | (with_reducible refine pickK_em (fun hc => ?_) (fun hc => ?_) <;> (have hc' := hc; (try simp at hc'); simp -implicitDefEqProofs [hc, hc', g3, g4, e0])) | (with_reducible apply callK_pure <;> first | (simp only [eras, era, eras_map]; first | with_reducible exact hf | simpa using hf) | (simp -implicitDefEqProofs [g3, g4, e0])))
    · have hf := w_r7first_out c (c.periods - 1) h8
      have hv : calV c = false := by simpa using mt (calV_iff c).1 (fun hh => h8 ⟨hh.1, hh.2.1, hh.2.2.2.2.1, hh.2.2.2.2.2.1⟩)
      rw [hv]
      (refine Pure.of_code mix Try.call61 k_61 (by simp) (fun hB => ?_); (try simp at hB); (try simp -implicitDefEqProofs [c_tallystoneref07_Valid_61, g3, g4, e0]))
      ((try simp at hf); (try simp -implicitDefEqProofs [g3, g4, e0]); repeat' first | (with_reducible refine gdK_em (fun hc => ?_) (fun hc => ?_) <;> (have hc' := hc; (try simp at hc'); simp -implicitDefEqProofs [hc, hc', g3, g4, e0])) | (with_reducible refine cdK_em (fun hc => ?_) (fun hc => ?_) <;> (have hc' := hc; (try simp at hc'); simp -implicitDefEqProofs [hc, hc', g3, g4, e0])) | (with_reducible refine pickK_em (fun hc => ?_) (fun hc => ?_) <;> (have hc' := hc; (try simp at hc'); simp -implicitDefEqProofs [hc, hc', g3, g4, e0])) | (with_reducible apply callK_pure <;> first | (simp only [eras, era, eras_map]; first | with_reducible exact hf | simpa using hf) | (simp -implicitDefEqProofs [g3, g4, e0])))
  · have hv : calV c = false := by simpa using mt (calV_iff c).1 (fun hh => h ⟨hh.2.2.1, hh.2.2.2.1⟩)
    rw [hv]
    (refine Pure.of_code mix Try.call61 k_61 (by simp) (fun hB => ?_); (try simp at hB); (try simp -implicitDefEqProofs [c_tallystoneref07_Valid_61]))
    ((try simp -implicitDefEqProofs); repeat' first | (with_reducible refine gdK_em (fun hc => ?_) (fun hc => ?_) <;> (have hc' := hc; (try simp at hc'); simp -implicitDefEqProofs [hc, hc'])) | (with_reducible refine cdK_em (fun hc => ?_) (fun hc => ?_) <;> (have hc' := hc; (try simp at hc'); simp -implicitDefEqProofs [hc, hc'])) | (with_reducible refine pickK_em (fun hc => ?_) (fun hc => ?_) <;> (have hc' := hc; (try simp at hc'); simp -implicitDefEqProofs [hc, hc'])))
    all_goals (exfalso; omega)

theorem w_r7check (c : Cal) (p : Int) : Pure Try.prog 45 [c.v, vI p] (vI (checkS c p)) := by
  have hc := w_r7V c
  cases hv : calV c
  · rw [hv] at hc
    have e : checkS c p = 1 := by simp [checkS, hv]
    rw [e]
    (refine Pure.of_code mix Try.call45 k_45 (by simp) (fun hB => ?_); (try simp at hB); (try simp -implicitDefEqProofs [c_tallystoneref07_check_45]))
    ((try simp at hc); (try simp -implicitDefEqProofs); repeat' first | (with_reducible refine gdK_em (fun hc => ?_) (fun hc => ?_) <;> (have hc' := hc; (try simp at hc'); simp -implicitDefEqProofs [hc, hc'])) | (with_reducible refine cdK_em (fun hc => ?_) (fun hc => ?_) <;> (have hc' := hc; (try simp at hc'); simp -implicitDefEqProofs [hc, hc'])) | (with_reducible refine pickK_em (fun hc => ?_) (fun hc => ?_) <;> (have hc' := hc; (try simp at hc'); simp -implicitDefEqProofs [hc, hc'])) | (with_reducible apply callK_pure <;> first | (simp only [eras, era, eras_map]; first | with_reducible exact hc | simpa using hc) | (simp -implicitDefEqProofs)))
  · rw [hv] at hc
    by_cases h : p < 0 ∨ c.periods ≤ p
    · have e : checkS c p = 2 := by simp [checkS, hv, h]
      rw [e]
      (refine Pure.of_code mix Try.call45 k_45 (by simp) (fun hB => ?_); (try simp at hB); (try simp -implicitDefEqProofs [c_tallystoneref07_check_45]))
      ((try simp at hc); (try simp -implicitDefEqProofs); repeat' first | (with_reducible refine gdK_em (fun hc => ?_) (fun hc => ?_) <;> (have hc' := hc; (try simp at hc'); simp -implicitDefEqProofs [hc, hc'])) | (with_reducible refine cdK_em (fun hc => ?_) (fun hc => ?_) <;> (have hc' := hc; (try simp at hc'); simp -implicitDefEqProofs [hc, hc'])) | (with_reducible refine pickK_em (fun hc => ?_) (fun hc => ?_) <;> (have hc' := hc; (try simp at hc'); simp -implicitDefEqProofs [hc, hc'])) | (with_reducible apply callK_pure <;> first | (simp only [eras, era, eras_map]; first | with_reducible exact hc | simpa using hc) | (simp -implicitDefEqProofs)))
      all_goals (exfalso; omega)
    · have e : checkS c p = 0 := by simp [checkS, hv, h]
      rw [e]
      (refine Pure.of_code mix Try.call45 k_45 (by simp) (fun hB => ?_); (try simp at hB); (try simp -implicitDefEqProofs [c_tallystoneref07_check_45]))
      ((try simp at hc); (try simp -implicitDefEqProofs); repeat' first | (with_reducible refine gdK_em (fun hc => ?_) (fun hc => ?_) <;> (have hc' := hc; (try simp at hc'); simp -implicitDefEqProofs [hc, hc'])) | (with_reducible refine cdK_em (fun hc => ?_) (fun hc => ?_) <;> (have hc' := hc; (try simp at hc'); simp -implicitDefEqProofs [hc, hc'])) | (with_reducible refine pickK_em (fun hc => ?_) (fun hc => ?_) <;> (have hc' := hc; (try simp at hc'); simp -implicitDefEqProofs [hc, hc'])) | (with_reducible apply callK_pure <;> first | (simp only [eras, era, eras_map]; first | with_reducible exact hc | simpa using hc) | (simp -implicitDefEqProofs)))
      all_goals (exfalso; omega)

theorem w_rFirst (c : Cal) (p : Int) : Pure Try.prog 19 [c.v, vI p] (.tup [vI (firstS c p).1, vI (firstS c p).2]) := by
  have hc := w_r7check c p
  by_cases hv : calV c = true
  · by_cases h : p < 0 ∨ c.periods ≤ p
    · simp only [checkS, firstS, if_pos hv, if_pos h] at hc ⊢
      (refine Pure.of_code mix Try.call19 k_19 (by simp) (fun hB => ?_); (try simp at hB); (try simp -implicitDefEqProofs [c_tallystoneref07_First_19]))
      ((try simp at hc); (try simp -implicitDefEqProofs); repeat' first | (with_reducible refine gdK_em (fun hc => ?_) (fun hc => ?_) <;> (have hc' := hc; (try simp at hc'); simp -implicitDefEqProofs [hc, hc'])) | (with_reducible refine cdK_em (fun hc => ?_) (fun hc => ?_) <;> (have hc' := hc; (try simp at hc'); simp -implicitDefEqProofs [hc, hc'])) | (with_reducible refine pickK_em (fun hc => ?_) (fun hc => ?_) <;> (have hc' := hc; (try simp at hc'); simp -implicitDefEqProofs [hc, hc'])) | (with_reducible apply callK_pure <;> first | (simp only [eras, era, eras_map]; first | with_reducible exact hc | simpa using hc) | (simp -implicitDefEqProofs)))
    · have hm := mon_first hv (p := p) (by omega) (by omega)
      obtain ⟨h1, h2, h3, h4, h5, h6, h7⟩ := (calV_iff c).1 hv
      have hf := w_r7first c p h1 h2 h5 h6 (by omega) (by omega)
      rw [if_pos hm.2] at hf
      simp only [checkS, firstS, if_pos hv, if_neg h] at hc ⊢
      (refine Pure.of_code mix Try.call19 k_19 (by simp) (fun hB => ?_); (try simp at hB); (try simp -implicitDefEqProofs [c_tallystoneref07_First_19]))
      ((try simp at hc); (try simp at hf); (try simp -implicitDefEqProofs); repeat' first | (with_reducible refine gdK_em (fun hc => ?_) (fun hc => ?_) <;> (have hc' := hc; (try simp at hc'); simp -implicitDefEqProofs [hc, hc'])) | (with_reducible refine cdK_em (fun hc => ?_) (fun hc => ?_) <;> (have hc' := hc; (try simp at hc'); simp -implicitDefEqProofs [hc, hc'])) | (with_reducible refine pickK_em (fun hc => ?_) (fun hc => ?_) <;> (have hc' := hc; (try simp at hc'); simp -implicitDefEqProofs [hc, hc'])) | (with_reducible apply callK_pure <;> first | (simp only [eras, era, eras_map]; first | with_reducible exact hc | simpa using hc) | (simp -implicitDefEqProofs)) | (with_reducible apply callK_pure <;> first | (simp only [eras, era, eras_map]; first | with_reducible exact hf | simpa using hf) | (simp -implicitDefEqProofs)))
  · simp only [checkS, firstS, if_neg hv] at hc ⊢
    (refine Pure.of_code mix Try.call19 k_19 (by simp) (fun hB => ?_); (try simp at hB); (try simp -implicitDefEqProofs [c_tallystoneref07_First_19]))
    ((try simp at hc); (try simp -implicitDefEqProofs); repeat' first | (with_reducible refine gdK_em (fun hc => ?_) (fun hc => ?_) <;> (have hc' := hc; (try simp at hc'); simp -implicitDefEqProofs [hc, hc'])) | (with_reducible refine cdK_em (fun hc => ?_) (fun hc => ?_) <;> (have hc' := hc; (try simp at hc'); simp -implicitDefEqProofs [hc, hc'])) | (with_reducible refine pickK_em (fun hc => ?_) (fun hc => ?_) <;> (have hc' := hc; (try simp at hc'); simp -implicitDefEqProofs [hc, hc'])) | (with_reducible apply callK_pure <;> first | (simp only [eras, era, eras_map]; first | with_reducible exact hc | simpa using hc) | (simp -implicitDefEqProofs)))

theorem w_rLast (c : Cal) (p : Int) : Pure Try.prog 20 [c.v, vI p] (.tup [vI (lastS c p).1, vI (lastS c p).2]) := by
  have hf := w_rFirst c p
  by_cases hv : calV c = true
  · by_cases h : p < 0 ∨ c.periods ≤ p
    · simp only [lastS, firstS, if_pos hv, if_pos h] at hf ⊢
      (refine Pure.of_code mix Try.call20 k_20 (by simp) (fun hB => ?_); (try simp at hB); (try simp -implicitDefEqProofs [c_tallystoneref07_Last_20]))
      ((try simp at hf); (try simp -implicitDefEqProofs); repeat' first | (with_reducible refine gdK_em (fun hc => ?_) (fun hc => ?_) <;> (have hc' := hc; (try simp at hc'); simp -implicitDefEqProofs [hc, hc'])) | (with_reducible refine cdK_em (fun hc => ?_) (fun hc => ?_) <;> (have hc' := hc; (try simp at hc'); simp -implicitDefEqProofs [hc, hc'])) | (with_reducible refine pickK_em (fun hc => ?_) (fun hc => ?_) <;> (have hc' := hc; (try simp at hc'); simp -implicitDefEqProofs [hc, hc'])) | (with_reducible apply callK_pure <;> first | (simp only [eras, era, eras_map]; first | with_reducible exact hf | simpa using hf) | (simp -implicitDefEqProofs)))
    · have hm := mon_first hv (p := p) (by omega) (by omega)
      have hday := mon_day hm.1 hm.2
      have hci := w_rCivil _ _ _ hday
      have hb := hday.bounds
      have bb1 := bgn_bounds (y := mon c p / 12) hm.1 (by omega)
      have bb2 := bgn_bounds (y := mon c p / 12 + 1) (by omega) (by omega)
      have hd := days_le (mon c p / 12) (mon c p % 12 + 1)
      have e1 : IntKind.i64.wrap (IntKind.i64.wrap (firstD c p + days (mon c p / 12) (mon c p % 12 + 1)) - 1) = lastD c p := by
        unfold firstD
        rw [wrap64 (x := dateOf _ _ _ + days _ _) (by omega) (by omega), wrap64 (by omega) (by omega)]; rfl
      simp only [lastS, firstS, if_pos hv, if_neg h] at hf ⊢
      have hdd : firstD c p = dateOf (mon c p / 12) (mon c p % 12 + 1) 1 := rfl
      rw [← hdd] at hci
      (refine Pure.of_code mix Try.call20 k_20 (by simp) (fun hB => ?_); (try simp at hB); (try simp -implicitDefEqProofs [c_tallystoneref07_Last_20]))
      ((try simp at hf); (try simp at hci); (try simp -implicitDefEqProofs [e1]); repeat' first | (with_reducible refine gdK_em (fun hc => ?_) (fun hc => ?_) <;> (have hc' := hc; (try simp at hc'); simp -implicitDefEqProofs [hc, hc', e1])) | (with_reducible refine cdK_em (fun hc => ?_) (fun hc => ?_) <;> (have hc' := hc; (try simp at hc'); simp -implicitDefEqProofs [hc, hc', e1])) | (with_reducible refine pickK_em (fun hc => ?_) (fun hc => ?_) <;> (have hc' := hc; (try simp at hc'); simp -implicitDefEqProofs [hc, hc', e1])) | (with_reducible apply callK_pure <;> first | (simp only [eras, era, eras_map]; first | with_reducible exact hf | simpa using hf) | (simp -implicitDefEqProofs [e1])) | (with_reducible apply callK_pure <;> first | (simp only [eras, era, eras_map]; first | with_reducible exact hci | simpa using hci) | (simp -implicitDefEqProofs [e1])) | (with_reducible apply callK_pure <;> first | (simp only [eras, era, eras_map]; first | with_reducible exact (w_rdays _ _) | simpa using (w_rdays _ _)) | (simp -implicitDefEqProofs [e1])))
  · simp only [lastS, firstS, if_neg hv] at hf ⊢
    (refine Pure.of_code mix Try.call20 k_20 (by simp) (fun hB => ?_); (try simp at hB); (try simp -implicitDefEqProofs [c_tallystoneref07_Last_20]))
    ((try simp at hf); (try simp -implicitDefEqProofs); repeat' first | (with_reducible refine gdK_em (fun hc => ?_) (fun hc => ?_) <;> (have hc' := hc; (try simp at hc'); simp -implicitDefEqProofs [hc, hc'])) | (with_reducible refine cdK_em (fun hc => ?_) (fun hc => ?_) <;> (have hc' := hc; (try simp at hc'); simp -implicitDefEqProofs [hc, hc'])) | (with_reducible refine pickK_em (fun hc => ?_) (fun hc => ?_) <;> (have hc' := hc; (try simp at hc'); simp -implicitDefEqProofs [hc, hc'])) | (with_reducible apply callK_pure <;> first | (simp only [eras, era, eras_map]; first | with_reducible exact hf | simpa using hf) | (simp -implicitDefEqProofs)))
end Go.Proofs.Ythfnaaeddlnckaa
end
