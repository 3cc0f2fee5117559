/- Chapter 34: the laws CompileOperates and CompileOrders. -/
import Derived.Test.YtkapabohpfkcoaaDoorAwk4
set_option linter.unusedSimpArgs false
set_option linter.unusedVariables false
set_option maxHeartbeats 2000000
set_option maxRecDepth 8000
namespace Go.Proofs.YtkapabohpfkcoaaDoor
open E

theorem l_operates (op a x y : Int) : Pure Tryd.prog 3 [vI op, vI a, .agg [vI x, vI y]] (vB true) := by
  have hc := w_op op a x y
  have hr := w_rop op a x y
  rw [← op_eq] at hr
  generalize opC op a x y = r at *
  obtain ⟨n, ok⟩ := r
  simp only [vO] at hc hr
  have hw := w_awake
  (refine Pure.of_code mix Tryd.call3 k_3 (by simp) (fun hB => ?_); (try simp at hB); (try simp -implicitDefEqProofs [c_tallystonelaw34_CompileOperates_3]))
  ((try simp at hw); (try simp at hc); (try simp at hr); (try simp -implicitDefEqProofs); repeat' first | (with_reducible refine gdK_em (fun hc => ?_) (fun hc => ?_) <;> (have hc' := hc; (try simp at hc'); simp -implicitDefEqProofs [hc, hc'])) | (with_reducible refine cdK_em (fun hc => ?_) (fun hc => ?_) <;> (have hc' := hc; (try simp at hc'); simp -implicitDefEqProofs [hc, hc'])) | (with_reducible refine pickK_em (fun hc => ?_) (fun hc => ?_) <;> (have hc' := hc; (try simp at hc'); simp -implicitDefEqProofs [hc, hc'])) | (with_reducible apply callK_pure <;> first | (simp only [eras, era, eras_map]; first | with_reducible exact hw | simpa using hw) | (simp -implicitDefEqProofs)) | (with_reducible apply callK_pure <;> first | (simp only [eras, era, eras_map]; first | with_reducible exact hc | simpa using hc) | (simp -implicitDefEqProofs)) | (with_reducible apply callK_pure <;> first | (simp only [eras, era, eras_map]; first | with_reducible exact hr | simpa using hr) | (simp -implicitDefEqProofs)))

theorem fin_amt {n : Int} (h : amtB n = true) : finO n = (n, true) := by unfold finO; rw [if_pos h]
theorem tru_amt (b : Bool) : amtB (tru b) = true := by cases b <;> decide

theorem comm_mul {x y : Int} (ax : amtB x = true) (ay : amtB y = true) : mulR x y = mulR y x := by
  unfold mulR
  rw [Int.mul_comm y x]
  by_cases h1 : x = 0
  · subst h1
    rw [if_pos rfl, Int.zero_mul]
    by_cases h2 : y = 0
    · subst h2; rw [if_pos rfl]
    · rw [if_neg h2, if_neg]
      obtain ⟨q, q1, q2⟩ := qW_eq ay h2
      rw [absW_eq ax, q]; omega
  · by_cases h2 : y = 0
    · subst h2
      rw [if_neg h1, if_pos rfl, if_neg]
      obtain ⟨q, q1, q2⟩ := qW_eq ax h1
      rw [absW_eq ay, q]; omega
    · rw [if_neg h1, if_neg h2]
      have key : ∀ {x y : Int}, amtB x = true → amtB y = true → x ≠ 0 → y ≠ 0 → ¬ (qW x < absW y) → ¬ (qW y < absW x) := by
        intro x y ax ay h1 h2 h3
        rw [absW_eq ay, (qW_eq ax h1).1] at h3
        rw [absW_eq ax, (qW_eq ay h2).1]
        have hx0 : 0 < max x (-x) := by omega
        have hy0 : 0 < max y (-y) := by omega
        have h4 : max y (-y) ≤ 1000000000000 / max x (-x) := by omega
        have h5 := (Int.le_ediv_iff_mul_le hx0).1 h4
        have h6 : max x (-x) ≤ 1000000000000 / max y (-y) := (Int.le_ediv_iff_mul_le hy0).2 (by rw [Int.mul_comm]; exact h5)
        omega
      by_cases h3 : qW x < absW y
      · rw [if_pos h3]
        by_cases h4 : qW y < absW x
        · rw [if_pos h4]
        · exact absurd h3 (key ay ax h2 h1 h4)
      · rw [if_neg h3, if_neg (key ax ay h1 h2 h3)]
theorem comm_op {x y : Int} (ax : amtB x = true) (ay : amtB y = true) (op : Int) (h : op = 10 ∨ op = 12 ∨ op = 13 ∨ op = 14 ∨ op = 15 ∨ op = 16 ∨ op = 19 ∨ op = 20) : opC op 0 x y = opC op 0 y x := by
  rw [op_eq, op_eq]
  unfold opR opG
  rw [if_pos ax, if_pos ay, if_pos ay, if_pos ax]
  rcases h with rfl | rfl | rfl | rfl | rfl | rfl | rfl | rfl
  · simp [Int.add_comm]
  · simpa using comm_mul ax ay
  · simp [Int.min_comm]
  · simp [Int.max_comm]
  · simp [Bool.and_comm]
  · simp [Bool.or_comm]
  · simp [BEq.comm]
  · simp [bne_comm]

theorem l_orders (x y : Int) : Pure Tryd.prog 4 [vI x, vI y] (vB true) := by
  have hw := w_awake
  have hx := w_ramt x
  have hy := w_ramt y
  cases ax : amtB x
  · rw [ax] at hx
    (refine Pure.of_code mix Tryd.call4 k_4 (by simp) (fun hB => ?_); (try simp at hB); (try simp -implicitDefEqProofs [c_tallystonelaw34_CompileOrders_4]))
    ((try simp at hw); (try simp at hx); (try simp -implicitDefEqProofs); repeat' first | (with_reducible refine gdK_em (fun hc => ?_) (fun hc => ?_) <;> (have hc' := hc; (try simp at hc'); simp -implicitDefEqProofs [hc, hc'])) | (with_reducible refine cdK_em (fun hc => ?_) (fun hc => ?_) <;> (have hc' := hc; (try simp at hc'); simp -implicitDefEqProofs [hc, hc'])) | (with_reducible refine pickK_em (fun hc => ?_) (fun hc => ?_) <;> (have hc' := hc; (try simp at hc'); simp -implicitDefEqProofs [hc, hc'])) | (with_reducible apply callK_pure <;> first | (simp only [eras, era, eras_map]; first | with_reducible exact hw | simpa using hw) | (simp -implicitDefEqProofs)) | (with_reducible apply callK_pure <;> first | (simp only [eras, era, eras_map]; first | with_reducible exact hx | simpa using hx) | (simp -implicitDefEqProofs)))
  cases ay : amtB y
  · rw [ax] at hx
    rw [ay] at hy
    (refine Pure.of_code mix Tryd.call4 k_4 (by simp) (fun hB => ?_); (try simp at hB); (try simp -implicitDefEqProofs [c_tallystonelaw34_CompileOrders_4]))
    ((try simp at hw); (try simp at hx); (try simp at hy); (try simp -implicitDefEqProofs); repeat' first | (with_reducible refine gdK_em (fun hc => ?_) (fun hc => ?_) <;> (have hc' := hc; (try simp at hc'); simp -implicitDefEqProofs [hc, hc'])) | (with_reducible refine cdK_em (fun hc => ?_) (fun hc => ?_) <;> (have hc' := hc; (try simp at hc'); simp -implicitDefEqProofs [hc, hc'])) | (with_reducible refine pickK_em (fun hc => ?_) (fun hc => ?_) <;> (have hc' := hc; (try simp at hc'); simp -implicitDefEqProofs [hc, hc'])) | (with_reducible apply callK_pure <;> first | (simp only [eras, era, eras_map]; first | with_reducible exact hw | simpa using hw) | (simp -implicitDefEqProofs)) | (with_reducible apply callK_pure <;> first | (simp only [eras, era, eras_map]; first | with_reducible exact hx | simpa using hx) | (simp -implicitDefEqProofs)) | (with_reducible apply callK_pure <;> first | (simp only [eras, era, eras_map]; first | with_reducible exact hy | simpa using hy) | (simp -implicitDefEqProofs)))
  rw [ax] at hx
  rw [ay] at hy
  (refine Pure.of_code mix Tryd.call4 k_4 (by simp) (fun hB => ?_); (try simp at hB); (try simp -implicitDefEqProofs [c_tallystonelaw34_CompileOrders_4]))
  ((try simp at hw); (try simp at hx); (try simp at hy); (try simp -implicitDefEqProofs); repeat' first | (with_reducible refine gdK_em (fun hc => ?_) (fun hc => ?_) <;> (have hc' := hc; (try simp at hc'); simp -implicitDefEqProofs [hc, hc'])) | (with_reducible refine cdK_em (fun hc => ?_) (fun hc => ?_) <;> (have hc' := hc; (try simp at hc'); simp -implicitDefEqProofs [hc, hc'])) | (with_reducible refine pickK_em (fun hc => ?_) (fun hc => ?_) <;> (have hc' := hc; (try simp at hc'); simp -implicitDefEqProofs [hc, hc'])) | (with_reducible apply callK_pure <;> first | (simp only [eras, era, eras_map]; first | with_reducible exact hw | simpa using hw) | (simp -implicitDefEqProofs)) | (with_reducible apply callK_pure <;> first | (simp only [eras, era, eras_map]; first | with_reducible exact hx | simpa using hx) | (simp -implicitDefEqProofs)) | (with_reducible apply callK_pure <;> first | (simp only [eras, era, eras_map]; first | with_reducible exact hy | simpa using hy) | (simp -implicitDefEqProofs)))
  refine loop_rule (X := Nat) (fun k => k ≤ 8)
    (fun k => [(0, vI x), (1, vI y), (5, .t (.sl [[tI 10], [tI 12], [tI 13], [tI 14], [tI 15], [tI 16], [tI 19], [tI 20]])), (6, vI k)]) (fun _ => ⟨[], []⟩) (fun k => 8 - k) 0 (by simp) (by simp) ?_
  rintro k hk hbd
  clear hbd
  rcases (by omega : k = 0 ∨ k = 1 ∨ k = 2 ∨ k = 3 ∨ k = 4 ∨ k = 5 ∨ k = 6 ∨ k = 7 ∨ k = 8) with rfl | rfl | rfl | rfl | rfl | rfl | rfl | rfl | rfl
  · have h1 := w_op 10 0 x y
    have h2 := w_op 10 0 y x
    rw [comm_op ax ay 10 (by decide)] at h1
    generalize opC 10 0 y x = r at h1 h2
    obtain ⟨n, ok⟩ := r
    simp only [vO] at h1 h2
    ((try simp at h1); (try simp at h2); (try simp -implicitDefEqProofs); repeat' first | (with_reducible refine gdK_em (fun hc => ?_) (fun hc => ?_) <;> (have hc' := hc; (try simp at hc'); simp -implicitDefEqProofs [hc, hc'])) | (with_reducible refine cdK_em (fun hc => ?_) (fun hc => ?_) <;> (have hc' := hc; (try simp at hc'); simp -implicitDefEqProofs [hc, hc'])) | (with_reducible refine pickK_em (fun hc => ?_) (fun hc => ?_) <;> (have hc' := hc; (try simp at hc'); simp -implicitDefEqProofs [hc, hc'])) | (with_reducible apply callK_pure <;> first | (simp only [eras, era, eras_map]; first | with_reducible exact h1 | simpa using h1) | (simp -implicitDefEqProofs)) | (with_reducible apply callK_pure <;> first | (simp only [eras, era, eras_map]; first | with_reducible exact h2 | simpa using h2) | (simp -implicitDefEqProofs)))
    exact ⟨1, by omega, by omega, rfl⟩
  · have h1 := w_op 12 0 x y
    have h2 := w_op 12 0 y x
    rw [comm_op ax ay 12 (by decide)] at h1
    generalize opC 12 0 y x = r at h1 h2
    obtain ⟨n, ok⟩ := r
    simp only [vO] at h1 h2
    ((try simp at h1); (try simp at h2); (try simp -implicitDefEqProofs); repeat' first | (with_reducible refine gdK_em (fun hc => ?_) (fun hc => ?_) <;> (have hc' := hc; (try simp at hc'); simp -implicitDefEqProofs [hc, hc'])) | (with_reducible refine cdK_em (fun hc => ?_) (fun hc => ?_) <;> (have hc' := hc; (try simp at hc'); simp -implicitDefEqProofs [hc, hc'])) | (with_reducible refine pickK_em (fun hc => ?_) (fun hc => ?_) <;> (have hc' := hc; (try simp at hc'); simp -implicitDefEqProofs [hc, hc'])) | (with_reducible apply callK_pure <;> first | (simp only [eras, era, eras_map]; first | with_reducible exact h1 | simpa using h1) | (simp -implicitDefEqProofs)) | (with_reducible apply callK_pure <;> first | (simp only [eras, era, eras_map]; first | with_reducible exact h2 | simpa using h2) | (simp -implicitDefEqProofs)))
    exact ⟨2, by omega, by omega, rfl⟩
  · have h1 := w_op 13 0 x y
    have h2 := w_op 13 0 y x
    rw [comm_op ax ay 13 (by decide)] at h1
    generalize opC 13 0 y x = r at h1 h2
    obtain ⟨n, ok⟩ := r
    simp only [vO] at h1 h2
    ((try simp at h1); (try simp at h2); (try simp -implicitDefEqProofs); repeat' first | (with_reducible refine gdK_em (fun hc => ?_) (fun hc => ?_) <;> (have hc' := hc; (try simp at hc'); simp -implicitDefEqProofs [hc, hc'])) | (with_reducible refine cdK_em (fun hc => ?_) (fun hc => ?_) <;> (have hc' := hc; (try simp at hc'); simp -implicitDefEqProofs [hc, hc'])) | (with_reducible refine pickK_em (fun hc => ?_) (fun hc => ?_) <;> (have hc' := hc; (try simp at hc'); simp -implicitDefEqProofs [hc, hc'])) | (with_reducible apply callK_pure <;> first | (simp only [eras, era, eras_map]; first | with_reducible exact h1 | simpa using h1) | (simp -implicitDefEqProofs)) | (with_reducible apply callK_pure <;> first | (simp only [eras, era, eras_map]; first | with_reducible exact h2 | simpa using h2) | (simp -implicitDefEqProofs)))
    exact ⟨3, by omega, by omega, rfl⟩
  · have h1 := w_op 14 0 x y
    have h2 := w_op 14 0 y x
    rw [comm_op ax ay 14 (by decide)] at h1
    generalize opC 14 0 y x = r at h1 h2
    obtain ⟨n, ok⟩ := r
    simp only [vO] at h1 h2
    ((try simp at h1); (try simp at h2); (try simp -implicitDefEqProofs); repeat' first | (with_reducible refine gdK_em (fun hc => ?_) (fun hc => ?_) <;> (have hc' := hc; (try simp at hc'); simp -implicitDefEqProofs [hc, hc'])) | (with_reducible refine cdK_em (fun hc => ?_) (fun hc => ?_) <;> (have hc' := hc; (try simp at hc'); simp -implicitDefEqProofs [hc, hc'])) | (with_reducible refine pickK_em (fun hc => ?_) (fun hc => ?_) <;> (have hc' := hc; (try simp at hc'); simp -implicitDefEqProofs [hc, hc'])) | (with_reducible apply callK_pure <;> first | (simp only [eras, era, eras_map]; first | with_reducible exact h1 | simpa using h1) | (simp -implicitDefEqProofs)) | (with_reducible apply callK_pure <;> first | (simp only [eras, era, eras_map]; first | with_reducible exact h2 | simpa using h2) | (simp -implicitDefEqProofs)))
    exact ⟨4, by omega, by omega, rfl⟩
  · have h1 := w_op 15 0 x y
    have h2 := w_op 15 0 y x
    rw [comm_op ax ay 15 (by decide)] at h1
    generalize opC 15 0 y x = r at h1 h2
    obtain ⟨n, ok⟩ := r
    simp only [vO] at h1 h2
    ((try simp at h1); (try simp at h2); (try simp -implicitDefEqProofs); repeat' first | (with_reducible refine gdK_em (fun hc => ?_) (fun hc => ?_) <;> (have hc' := hc; (try simp at hc'); simp -implicitDefEqProofs [hc, hc'])) | (with_reducible refine cdK_em (fun hc => ?_) (fun hc => ?_) <;> (have hc' := hc; (try simp at hc'); simp -implicitDefEqProofs [hc, hc'])) | (with_reducible refine pickK_em (fun hc => ?_) (fun hc => ?_) <;> (have hc' := hc; (try simp at hc'); simp -implicitDefEqProofs [hc, hc'])) | (with_reducible apply callK_pure <;> first | (simp only [eras, era, eras_map]; first | with_reducible exact h1 | simpa using h1) | (simp -implicitDefEqProofs)) | (with_reducible apply callK_pure <;> first | (simp only [eras, era, eras_map]; first | with_reducible exact h2 | simpa using h2) | (simp -implicitDefEqProofs)))
    exact ⟨5, by omega, by omega, rfl⟩
  · have h1 := w_op 16 0 x y
    have h2 := w_op 16 0 y x
    rw [comm_op ax ay 16 (by decide)] at h1
    generalize opC 16 0 y x = r at h1 h2
    obtain ⟨n, ok⟩ := r
    simp only [vO] at h1 h2
    ((try simp at h1); (try simp at h2); (try simp -implicitDefEqProofs); repeat' first | (with_reducible refine gdK_em (fun hc => ?_) (fun hc => ?_) <;> (have hc' := hc; (try simp at hc'); simp -implicitDefEqProofs [hc, hc'])) | (with_reducible refine cdK_em (fun hc => ?_) (fun hc => ?_) <;> (have hc' := hc; (try simp at hc'); simp -implicitDefEqProofs [hc, hc'])) | (with_reducible refine pickK_em (fun hc => ?_) (fun hc => ?_) <;> (have hc' := hc; (try simp at hc'); simp -implicitDefEqProofs [hc, hc'])) | (with_reducible apply callK_pure <;> first | (simp only [eras, era, eras_map]; first | with_reducible exact h1 | simpa using h1) | (simp -implicitDefEqProofs)) | (with_reducible apply callK_pure <;> first | (simp only [eras, era, eras_map]; first | with_reducible exact h2 | simpa using h2) | (simp -implicitDefEqProofs)))
    exact ⟨6, by omega, by omega, rfl⟩
  · have h1 := w_op 19 0 x y
    have h2 := w_op 19 0 y x
    rw [comm_op ax ay 19 (by decide)] at h1
    generalize opC 19 0 y x = r at h1 h2
    obtain ⟨n, ok⟩ := r
    simp only [vO] at h1 h2
    ((try simp at h1); (try simp at h2); (try simp -implicitDefEqProofs); repeat' first | (with_reducible refine gdK_em (fun hc => ?_) (fun hc => ?_) <;> (have hc' := hc; (try simp at hc'); simp -implicitDefEqProofs [hc, hc'])) | (with_reducible refine cdK_em (fun hc => ?_) (fun hc => ?_) <;> (have hc' := hc; (try simp at hc'); simp -implicitDefEqProofs [hc, hc'])) | (with_reducible refine pickK_em (fun hc => ?_) (fun hc => ?_) <;> (have hc' := hc; (try simp at hc'); simp -implicitDefEqProofs [hc, hc'])) | (with_reducible apply callK_pure <;> first | (simp only [eras, era, eras_map]; first | with_reducible exact h1 | simpa using h1) | (simp -implicitDefEqProofs)) | (with_reducible apply callK_pure <;> first | (simp only [eras, era, eras_map]; first | with_reducible exact h2 | simpa using h2) | (simp -implicitDefEqProofs)))
    exact ⟨7, by omega, by omega, rfl⟩
  · have h1 := w_op 20 0 x y
    have h2 := w_op 20 0 y x
    rw [comm_op ax ay 20 (by decide)] at h1
    generalize opC 20 0 y x = r at h1 h2
    obtain ⟨n, ok⟩ := r
    simp only [vO] at h1 h2
    ((try simp at h1); (try simp at h2); (try simp -implicitDefEqProofs); repeat' first | (with_reducible refine gdK_em (fun hc => ?_) (fun hc => ?_) <;> (have hc' := hc; (try simp at hc'); simp -implicitDefEqProofs [hc, hc'])) | (with_reducible refine cdK_em (fun hc => ?_) (fun hc => ?_) <;> (have hc' := hc; (try simp at hc'); simp -implicitDefEqProofs [hc, hc'])) | (with_reducible refine pickK_em (fun hc => ?_) (fun hc => ?_) <;> (have hc' := hc; (try simp at hc'); simp -implicitDefEqProofs [hc, hc'])) | (with_reducible apply callK_pure <;> first | (simp only [eras, era, eras_map]; first | with_reducible exact h1 | simpa using h1) | (simp -implicitDefEqProofs)) | (with_reducible apply callK_pure <;> first | (simp only [eras, era, eras_map]; first | with_reducible exact h2 | simpa using h2) | (simp -implicitDefEqProofs)))
    exact ⟨8, by omega, by omega, rfl⟩
  · have h0 := amt_in ax
    have h0' := amt_in ay
    have a0 : amtB 0 = true := by decide
    have a1 : amtB 1 = true := by decide
    have p17 := w_op 17 0 x y
    have p19 := w_op 19 0 x y
    have p22 := w_op 22 0 x y
    have p18 := w_op 18 0 x y
    have p8 := fun g => w_op 8 0 g 0
    have p13 := w_op 13 0 x y
    have p14 := w_op 14 0 x y
    have e9 : IntKind.i64.wrap (x + y) = x + y := wrap64 (by omega) (by omega)
    have e10 : IntKind.i64.wrap (y + x) = y + x := wrap64 (by omega) (by omega)
    rw [show opC 17 0 x y = finO (tru (decide (x < y))) from by simp [opC, opG, ax, ay], fin_amt (tru_amt _)] at p17
    rw [show opC 19 0 x y = finO (tru (x == y)) from by simp [opC, opG, ax, ay], fin_amt (tru_amt _)] at p19
    rw [show opC 22 0 x y = finO (tru (decide (y < x))) from by simp [opC, opG, ax, ay], fin_amt (tru_amt _)] at p22
    rw [show opC 18 0 x y = finO (tru (decide (x ≤ y))) from by simp [opC, opG, ax, ay], fin_amt (tru_amt _)] at p18
    rw [show opC 13 0 x y = finO (min x y) from by simp [opC, opG, ax, ay], fin_amt (amt_of (by omega) (by omega))] at p13
    rw [show opC 14 0 x y = finO (max x y) from by simp [opC, opG, ax, ay], fin_amt (amt_of (by omega) (by omega))] at p14
    simp only [vO] at p17 p19 p22 p18 p13 p14
    rcases (by omega : x < y ∨ x = y ∨ y < x) with g | g | g
    · have q8 := p8 0
      rw [show opC 8 0 0 0 = (1, true) from by decide] at q8
      have g1 : ¬ x = y := by omega
      have g2 : ¬ y < x := by omega
      have g3 : x ≤ y := by omega
      have g4 : min x y = x := by omega
      have g5 : max x y = y := by omega
      have g6 : (x == y) = false := by simpa using g1
      simp [vO, g, g1, g2, g3, g4, g5, g6, tru] at p17 p19 p22 p18 p13 p14 q8
      ((try simp at p17); (try simp at p19); (try simp at p22); (try simp at p18); (try simp at q8); (try simp at p13); (try simp at p14); (try simp -implicitDefEqProofs [e9]); repeat' first | (with_reducible refine gdK_em (fun hc => ?_) (fun hc => ?_) <;> (have hc' := hc; (try simp at hc'); simp -implicitDefEqProofs [hc, hc', e9])) | (with_reducible refine cdK_em (fun hc => ?_) (fun hc => ?_) <;> (have hc' := hc; (try simp at hc'); simp -implicitDefEqProofs [hc, hc', e9])) | (with_reducible refine pickK_em (fun hc => ?_) (fun hc => ?_) <;> (have hc' := hc; (try simp at hc'); simp -implicitDefEqProofs [hc, hc', e9])) | (with_reducible apply callK_pure <;> first | (simp only [eras, era, eras_map]; first | with_reducible exact p17 | simpa using p17) | (simp -implicitDefEqProofs [e9])) | (with_reducible apply callK_pure <;> first | (simp only [eras, era, eras_map]; first | with_reducible exact p19 | simpa using p19) | (simp -implicitDefEqProofs [e9])) | (with_reducible apply callK_pure <;> first | (simp only [eras, era, eras_map]; first | with_reducible exact p22 | simpa using p22) | (simp -implicitDefEqProofs [e9])) | (with_reducible apply callK_pure <;> first | (simp only [eras, era, eras_map]; first | with_reducible exact p18 | simpa using p18) | (simp -implicitDefEqProofs [e9])) | (with_reducible apply callK_pure <;> first | (simp only [eras, era, eras_map]; first | with_reducible exact q8 | simpa using q8) | (simp -implicitDefEqProofs [e9])) | (with_reducible apply callK_pure <;> first | (simp only [eras, era, eras_map]; first | with_reducible exact p13 | simpa using p13) | (simp -implicitDefEqProofs [e9])) | (with_reducible apply callK_pure <;> first | (simp only [eras, era, eras_map]; first | with_reducible exact p14 | simpa using p14) | (simp -implicitDefEqProofs [e9])))
      all_goals omega
    · have q8 := p8 0
      rw [show opC 8 0 0 0 = (1, true) from by decide] at q8
      subst g
      simp [vO, tru] at p17 p19 p22 p18 p13 p14 q8
      ((try simp at p17); (try simp at p19); (try simp at p22); (try simp at p18); (try simp at q8); (try simp at p13); (try simp at p14); (try simp -implicitDefEqProofs [e9]); repeat' first | (with_reducible refine gdK_em (fun hc => ?_) (fun hc => ?_) <;> (have hc' := hc; (try simp at hc'); simp -implicitDefEqProofs [hc, hc', e9])) | (with_reducible refine cdK_em (fun hc => ?_) (fun hc => ?_) <;> (have hc' := hc; (try simp at hc'); simp -implicitDefEqProofs [hc, hc', e9])) | (with_reducible refine pickK_em (fun hc => ?_) (fun hc => ?_) <;> (have hc' := hc; (try simp at hc'); simp -implicitDefEqProofs [hc, hc', e9])) | (with_reducible apply callK_pure <;> first | (simp only [eras, era, eras_map]; first | with_reducible exact p17 | simpa using p17) | (simp -implicitDefEqProofs [e9])) | (with_reducible apply callK_pure <;> first | (simp only [eras, era, eras_map]; first | with_reducible exact p19 | simpa using p19) | (simp -implicitDefEqProofs [e9])) | (with_reducible apply callK_pure <;> first | (simp only [eras, era, eras_map]; first | with_reducible exact p22 | simpa using p22) | (simp -implicitDefEqProofs [e9])) | (with_reducible apply callK_pure <;> first | (simp only [eras, era, eras_map]; first | with_reducible exact p18 | simpa using p18) | (simp -implicitDefEqProofs [e9])) | (with_reducible apply callK_pure <;> first | (simp only [eras, era, eras_map]; first | with_reducible exact q8 | simpa using q8) | (simp -implicitDefEqProofs [e9])) | (with_reducible apply callK_pure <;> first | (simp only [eras, era, eras_map]; first | with_reducible exact p13 | simpa using p13) | (simp -implicitDefEqProofs [e9])) | (with_reducible apply callK_pure <;> first | (simp only [eras, era, eras_map]; first | with_reducible exact p14 | simpa using p14) | (simp -implicitDefEqProofs [e9])))
      all_goals omega
    · have q8 := p8 1
      rw [show opC 8 0 1 0 = (0, true) from by decide] at q8
      have g1 : ¬ x = y := by omega
      have g2 : ¬ x < y := by omega
      have g3 : ¬ x ≤ y := by omega
      have g4 : min x y = y := by omega
      have g5 : max x y = x := by omega
      have g6 : (x == y) = false := by simpa using g1
      simp [vO, g, g1, g2, g3, g4, g5, g6, tru] at p17 p19 p22 p18 p13 p14 q8
      ((try simp at p17); (try simp at p19); (try simp at p22); (try simp at p18); (try simp at q8); (try simp at p13); (try simp at p14); (try simp -implicitDefEqProofs [e9, e10]); repeat' first | (with_reducible refine gdK_em (fun hc => ?_) (fun hc => ?_) <;> (have hc' := hc; (try simp at hc'); simp -implicitDefEqProofs [hc, hc', e9, e10])) | (with_reducible refine cdK_em (fun hc => ?_) (fun hc => ?_) <;> (have hc' := hc; (try simp at hc'); simp -implicitDefEqProofs [hc, hc', e9, e10])) | (with_reducible refine pickK_em (fun hc => ?_) (fun hc => ?_) <;> (have hc' := hc; (try simp at hc'); simp -implicitDefEqProofs [hc, hc', e9, e10])) | (with_reducible apply callK_pure <;> first | (simp only [eras, era, eras_map]; first | with_reducible exact p17 | simpa using p17) | (simp -implicitDefEqProofs [e9, e10])) | (with_reducible apply callK_pure <;> first | (simp only [eras, era, eras_map]; first | with_reducible exact p19 | simpa using p19) | (simp -implicitDefEqProofs [e9, e10])) | (with_reducible apply callK_pure <;> first | (simp only [eras, era, eras_map]; first | with_reducible exact p22 | simpa using p22) | (simp -implicitDefEqProofs [e9, e10])) | (with_reducible apply callK_pure <;> first | (simp only [eras, era, eras_map]; first | with_reducible exact p18 | simpa using p18) | (simp -implicitDefEqProofs [e9, e10])) | (with_reducible apply callK_pure <;> first | (simp only [eras, era, eras_map]; first | with_reducible exact q8 | simpa using q8) | (simp -implicitDefEqProofs [e9, e10])) | (with_reducible apply callK_pure <;> first | (simp only [eras, era, eras_map]; first | with_reducible exact p13 | simpa using p13) | (simp -implicitDefEqProofs [e9, e10])) | (with_reducible apply callK_pure <;> first | (simp only [eras, era, eras_map]; first | with_reducible exact p14 | simpa using p14) | (simp -implicitDefEqProofs [e9, e10])))
      all_goals omega
end Go.Proofs.YtkapabohpfkcoaaDoor
