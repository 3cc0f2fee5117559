/- Walks of chapter 34's reference: number, Text. -/
import Derived.Test.YtkapabohpfkcoaaDoorRfc
set_option linter.unusedSimpArgs false
set_option linter.unusedVariables false
set_option maxHeartbeats 2000000
set_option maxRecDepth 8000
namespace Go.Proofs.YtkapabohpfkcoaaDoor
open E

theorem dec_lt {n : Nat} (h : n < 10) : Lib.decDigits n = [UInt8.ofNat (48 + n)] := by rw [Lib.decDigits, dif_pos h]
theorem dec_ge {n : Nat} (h : ¬ n < 10) : Lib.decDigits n = Lib.decDigits (n / 10) ++ [UInt8.ofNat (48 + n % 10)] := by rw [Lib.decDigits, dif_neg h]
theorem dig_at {d : Nat} (h : d < 10) : (([48, 49, 50, 51, 52, 53, 54, 55, 56, 57] : List UInt8).take (d + 1)).drop d = [UInt8.ofNat (48 + d)] := by
  rcases (by omega : d = 0 ∨ d = 1 ∨ d = 2 ∨ d = 3 ∨ d = 4 ∨ d = 5 ∨ d = 6 ∨ d = 7 ∨ d = 8 ∨ d = 9) with rfl | rfl | rfl | rfl | rfl | rfl | rfl | rfl | rfl | rfl <;> rfl
theorem dec_ne (n : Nat) : Lib.decDigits n ≠ [] := by
  rw [Lib.decDigits]; split <;> simp
/-- What is still to be written, ahead of what is written. -/
def numI (n m : Nat) (s : List UInt8) : Prop := (s = [] ∧ m = n) ∨ (s ≠ [] ∧ (if m = 0 then [] else Lib.decDigits m) ++ s = Lib.decDigits n)
theorem num_step {n m : Nat} {s : List UInt8} (h : numI n m s) (hg : ¬ (m = 0 ∧ s ≠ [])) : numI n (m / 10) ([UInt8.ofNat (48 + m % 10)] ++ s) := by
  refine .inr ⟨by simp, ?_⟩
  have e : (if m / 10 = 0 then [] else Lib.decDigits (m / 10)) ++ [UInt8.ofNat (48 + m % 10)] = Lib.decDigits m := by
    by_cases h10 : m < 10
    · rw [dec_lt h10, if_pos (by omega), Nat.mod_eq_of_lt h10]; rfl
    · rw [dec_ge h10, if_neg (by omega)]
  rw [← List.append_assoc, e]
  rcases h with ⟨rfl, rfl⟩ | ⟨h1, h2⟩
  · simp
  · rw [if_neg (fun h0 => hg ⟨h0, h1⟩)] at h2
    exact h2
theorem num_end {n : Nat} {s : List UInt8} (h : numI n 0 s) (hs : s ≠ []) : s = Lib.decDigits n := by
  rcases h with ⟨h1, _⟩ | ⟨_, h2⟩
  · exact absurd h1 hs
  · simpa using h2

theorem w_rnum0 (n : Nat) (h : n ≤ 1000000000000000) : Pure Tryd.prog 66 [vI n] (vS (Lib.decDigits n)) := by
  have hn0 : ¬ (n : Int) < 0 := by omega
  generalize hR : vS (Lib.decDigits n) = R
  (refine Pure.of_code mix Tryd.call66 k_66 (by simp) (fun hB => ?_); (try simp at hB); (try simp -implicitDefEqProofs [c_tallystoneref34_number_66]))
  ((try simp -implicitDefEqProofs [hn0]); repeat' first | (with_reducible refine gdK_em (fun hc => ?_) (fun hc => ?_) <;> (have hc' := hc; (try simp at hc'); simp -implicitDefEqProofs [hc, hc', hn0])) | (with_reducible refine cdK_em (fun hc => ?_) (fun hc => ?_) <;> (have hc' := hc; (try simp at hc'); simp -implicitDefEqProofs [hc, hc', hn0])) | (with_reducible refine pickK_em (fun hc => ?_) (fun hc => ?_) <;> (have hc' := hc; (try simp at hc'); simp -implicitDefEqProofs [hc, hc', hn0])))
  refine loop_rule (X := Nat × List UInt8) (fun X => X.1 ≤ n ∧ X.2.length ≤ n - X.1 + (if X.2 = [] then 0 else 1) ∧ numI n X.1 X.2) (fun X => [(0, vI X.1), (3, vS [48, 49, 50, 51, 52, 53, 54, 55, 56, 57]), (4, vS X.2)]) (fun _ => St0) (fun X => X.1 + (if X.2 = [] then 1 else 0)) (n, []) ⟨Nat.le_refl _, by simp, .inl ⟨rfl, rfl⟩⟩ (by simp) ?_
  rintro ⟨m, s⟩ ⟨hm, hl, hI⟩ hbd
  simp only [] at hm hl hI
  clear hbd
  by_cases hg : m = 0 ∧ s ≠ []
  · obtain ⟨rfl, hs⟩ := hg
    rw [← num_end hI hs] at hR
    subst hR
    have hs' : (s == ([] : List UInt8)) = false := by simpa using hs
    ((try simp -implicitDefEqProofs [hs, hs']); repeat' first | (with_reducible refine gdK_em (fun hc => ?_) (fun hc => ?_) <;> (have hc' := hc; (try simp at hc'); simp -implicitDefEqProofs [hc, hc', hs, hs'])) | (with_reducible refine cdK_em (fun hc => ?_) (fun hc => ?_) <;> (have hc' := hc; (try simp at hc'); simp -implicitDefEqProofs [hc, hc', hs, hs'])) | (with_reducible refine pickK_em (fun hc => ?_) (fun hc => ?_) <;> (have hc' := hc; (try simp at hc'); simp -implicitDefEqProofs [hc, hc', hs, hs'])))
  · have hd10 : m % 10 < 10 := Nat.mod_lt _ (by omega)
    have e1 : ((m : Int).tmod 10) = ((m % 10 : Nat) : Int) := by rw [Int.tmod_eq_emod_of_nonneg (by omega)]; omega
    have e2 : IntKind.i64.wrap (((m % 10 : Nat) : Int) + 1) = ((m % 10 : Nat) : Int) + 1 := wrap64 (by omega) (by omega)
    have e3 : IntKind.i64.wrap ((m : Int).tdiv 10) = ((m / 10 : Nat) : Int) := by
      have : (m : Int).tdiv 10 = ((m / 10 : Nat) : Int) := by rw [Int.tdiv_eq_ediv_of_nonneg (by omega)]; omega
      rw [this, wrap64 (by omega) (by omega)]
    have hst := num_step hI hg
    have hdg := dig_at hd10
    have hlen : s.length ≤ 1000000000000001 := by
      split at hl <;> omega
    rcases Nat.eq_zero_or_pos m with hz | hz
    · subst hz
      have hs : s = [] := by
        cases s with
        | nil => rfl
        | cons a s => exact absurd ⟨rfl, by simp⟩ hg
      subst hs
      ((try simp -implicitDefEqProofs [e1, e2, e3, hdg, maxLen]); repeat' first | (with_reducible refine gdK_em (fun hc => ?_) (fun hc => ?_) <;> (have hc' := hc; (try simp at hc'); simp -implicitDefEqProofs [hc, hc', e1, e2, e3, hdg, maxLen])) | (with_reducible refine cdK_em (fun hc => ?_) (fun hc => ?_) <;> (have hc' := hc; (try simp at hc'); simp -implicitDefEqProofs [hc, hc', e1, e2, e3, hdg, maxLen])) | (with_reducible refine pickK_em (fun hc => ?_) (fun hc => ?_) <;> (have hc' := hc; (try simp at hc'); simp -implicitDefEqProofs [hc, hc', e1, e2, e3, hdg, maxLen])))
      exact ⟨0, [48], ⟨by omega, by simp, by simpa using hst⟩, ⟨rfl, by simp⟩, rfl, rfl⟩
    · have hz' : (0 : Int) < m := by omega
      have g1 : IntKind.i64.wrap ((m : Int) % 10 + 1) = (m : Int) % 10 + 1 := wrap64 (by omega) (by omega)
      have g2 : ((m : Int) % 10).toNat = m % 10 := by omega
      have g3 : ((m : Int) % 10 + 1).toNat = m % 10 + 1 := by omega
      have g4 : IntKind.i64.wrap ((m : Int) / 10) = (m : Int) / 10 := wrap64 (by omega) (by omega)
      have g0 : (m : Int).tmod 10 = (m : Int) % 10 := Int.tmod_eq_emod_of_nonneg (by omega)
      ((try simp -implicitDefEqProofs [hz, hz', g0, g1, g2, g3, g4, hdg, maxLen]); repeat' first | (with_reducible refine gdK_em (fun hc => ?_) (fun hc => ?_) <;> (have hc' := hc; (try simp at hc'); simp -implicitDefEqProofs [hc, hc', hz, hz', g0, g1, g2, g3, g4, hdg, maxLen])) | (with_reducible refine cdK_em (fun hc => ?_) (fun hc => ?_) <;> (have hc' := hc; (try simp at hc'); simp -implicitDefEqProofs [hc, hc', hz, hz', g0, g1, g2, g3, g4, hdg, maxLen])) | (with_reducible refine pickK_em (fun hc => ?_) (fun hc => ?_) <;> (have hc' := hc; (try simp at hc'); simp -implicitDefEqProofs [hc, hc', hz, hz', g0, g1, g2, g3, g4, hdg, maxLen])))
      refine ⟨⟨by omega, by omega⟩, by omega, m / 10, UInt8.ofNat (48 + m % 10) :: s, ⟨by omega, ?_, hst⟩, ?_, by omega, congrArg (· ++ s) hdg.symm⟩
      · simp only [List.length_cons, reduceCtorEq, if_false]
        split at hl <;> omega
      · simp only [reduceCtorEq, if_false]
        split <;> omega

theorem w_rnum (n : Int) (h1 : -1000000000000000 ≤ n) (h2 : n ≤ 1000000000000000) : Pure Tryd.prog 66 [vI n] (vS (Lib.itoa n)) := by
  rcases (by omega : n < 0 ∨ 0 ≤ n) with h | h
  · obtain ⟨m, rfl⟩ : ∃ m : Nat, n = -(m : Int) := ⟨n.natAbs, by omega⟩
    have hm := w_rnum0 m (by omega)
    have e : Lib.itoa (-(m : Int)) = [45] ++ Lib.decDigits m := Lib.itoa_neg m (by omega)
    have e1 : IntKind.i64.wrap (m : Int) = (m : Int) := wrap64 (by omega) (by omega)
    have hl := Lib.decDigits_length m
    have hl2 := Lib.nDigits_le20 m (by omega)
    have hm1 : 0 < m := by omega
    rw [e]
    (refine Pure.of_code mix Tryd.call66 k_66 (by simp) (fun hB => ?_); (try simp at hB); (try simp -implicitDefEqProofs [c_tallystoneref34_number_66]))
    ((try simp at hm); (try simp -implicitDefEqProofs [hm1, e1]); repeat' first | (with_reducible refine gdK_em (fun hc => ?_) (fun hc => ?_) <;> (have hc' := hc; (try simp at hc'); simp -implicitDefEqProofs [hc, hc', hm1, e1])) | (with_reducible refine cdK_em (fun hc => ?_) (fun hc => ?_) <;> (have hc' := hc; (try simp at hc'); simp -implicitDefEqProofs [hc, hc', hm1, e1])) | (with_reducible refine pickK_em (fun hc => ?_) (fun hc => ?_) <;> (have hc' := hc; (try simp at hc'); simp -implicitDefEqProofs [hc, hc', hm1, e1])) | (with_reducible apply callK_pure <;> first | (simp only [eras, era, eras_map]; first | with_reducible exact hm | simpa using hm) | (simp -implicitDefEqProofs [hm1, e1])))
    unfold maxLen; omega
  · obtain ⟨m, rfl⟩ : ∃ m : Nat, n = (m : Int) := ⟨n.toNat, by omega⟩
    rw [Lib.itoa_nonneg]
    exact w_rnum0 m (by omega)
end Go.Proofs.YtkapabohpfkcoaaDoor
