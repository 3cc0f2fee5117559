/- Chapter 31: token.Value. -/
import Derived.Test.YtkapabohpfkcoaaDoorNxt
set_option linter.unusedSimpArgs false
set_option linter.unusedVariables false
set_option maxHeartbeats 2000000
set_option maxRecDepth 8000
namespace Go.Proofs.YtkapabohpfkcoaaDoor
open E

/-- The number that digits name, on top of n, up to the largest amount. -/
def numR : Nat → List UInt8 → Option Nat
  | n, [] => some n
  | n, c :: s => if 1000000000000 < 10 * n + (c.toNat - 48) then none else numR (10 * n + (c.toNat - 48)) s
def valR (k : Int) (s : List UInt8) : Int × Bool :=
  if k = 2 ∧ s ≠ [] ∧ runR digI s = s.length then (match numR 0 s with | some n => ((n : Int), true) | none => (0, false)) else (0, false)
theorem runR_all (p : Int → Bool) : ∀ (s : List UInt8), runR p s = s.length → ∀ j : Nat, j < s.length → p (s.getD j 0).toNat = true
  | [], _, j, hj => by simp at hj
  | c :: s, h, 0, _ => by
    simp only [runR] at h
    split at h
    · simpa
    · simp at h
  | c :: s, h, j + 1, hj => by
    simp only [runR] at h
    split at h
    · have := runR_all p s (by simp only [List.length_cons] at h; omega) j (by simpa using hj)
      simpa using this
    · simp at h
theorem w_Value (k : Int) (s : List UInt8) (fr : Int) (hs : s.length ≤ 1000000) : Pure Tryd.prog 137 [.agg [vI k, vS s, vI fr]] (.tup [vI (valR k s).1, vB (valR k s).2]) := by
  have hrun := w_run digI _ w_digit s hs
  have hrl := runR_le digI s
  have hall := runR_all digI s
  have hR := rfl (a := valR k s)
  conv at hR => lhs; unfold valR
  generalize valR k s = R at *
  by_cases hk : k = 2
  · by_cases hn : s = []
    · subst hn
      rw [if_neg (by simp)] at hR
      subst hR
      subst hk
      (refine Pure.of_code mix Tryd.call137 k_137 (by simp) (fun hB => ?_); (try simp at hB); (try simp -implicitDefEqProofs [c_token_Value_137]))
      ((try simp at hrun); (try simp -implicitDefEqProofs); repeat' first | ((first | with_reducible refine gdK_em (fun hc => ?_) (fun hc => ?_) | with_reducible refine cdK_em (fun hc => ?_) (fun hc => ?_) | with_reducible refine pickK_em (fun hc => ?_) (fun hc => ?_)) <;> (have hc' := hc; (try simp at hc'); simp -implicitDefEqProofs [hc, hc'])) | (with_reducible apply callK_pure <;> first | (simp only [eras, era, eras_map]; first | with_reducible exact hrun | simpa using hrun) | (simp -implicitDefEqProofs)))
    · have hn' : s.isEmpty = false := by simpa using hn
      by_cases hr : runR digI s = s.length
      · rw [if_pos ⟨hk, hn, hr⟩] at hR
        have hd := hall hr
        rw [hr] at hrun
        subst hk
        (refine Pure.of_code mix Tryd.call137 k_137 (by simp) (fun hB => ?_); (try simp at hB); (try simp -implicitDefEqProofs [c_token_Value_137]))
        ((try simp at hrun); (try simp -implicitDefEqProofs [hn, hn']); repeat' first | ((first | with_reducible refine gdK_em (fun hc => ?_) (fun hc => ?_) | with_reducible refine cdK_em (fun hc => ?_) (fun hc => ?_) | with_reducible refine pickK_em (fun hc => ?_) (fun hc => ?_)) <;> (have hc' := hc; (try simp at hc'); simp -implicitDefEqProofs [hc, hc', hn, hn'])) | (with_reducible apply callK_pure <;> first | (simp only [eras, era, eras_map]; first | with_reducible exact hrun | simpa using hrun) | (simp -implicitDefEqProofs [hn, hn'])))
        refine loop_rule (X := Nat × Nat) (fun X => X.1 ≤ s.length ∧ X.2 ≤ 1000000000000 ∧ numR X.2 (s.drop X.1) = numR 0 s) (fun X => [(1, .ptr 0 0), (4, vI X.2), (26, .ptr 1 0)]) (fun X => ⟨[.cells [vI 2, vS s, vI fr], .itr s X.1], []⟩) (fun X => s.length - X.1) (0, 0) ⟨by omega, by omega, by simp⟩ (by simp) ?_
        rintro ⟨p, n⟩ ⟨hp, hnm, hnum⟩ hbd
        simp only [] at hp hnm hnum
        clear hbd
        rcases Nat.lt_or_ge p s.length with h | h
        · have hx : s.drop p = s.getD p 0 :: s.drop (p + 1) := by
            rw [List.drop_eq_getElem_cons h]
            simp [List.getD_eq_getElem?_getD, h]
          have hdp := hd p h
          simp only [digI, Bool.and_eq_true, decide_eq_true_eq] at hdp
          obtain ⟨d1, d2⟩ := decode_lo (l := s) (p := p) (by omega)
          rw [hx, numR] at hnum
          generalize (s.getD p 0).toNat = c at *
          have e1 : IntKind.i64.wrap (10 * (n : Int)) = 10 * (n : Int) := wrap64 (by omega) (by omega)
          have e2 : IntKind.i32.wrap ((c : Int) - 48) = (c : Int) - 48 := by
            unfold IntKind.wrap; simp [IntKind.signed, IntKind.bits]; omega
          have e3 : IntKind.i64.wrap ((c : Int) - 48) = (c : Int) - 48 := wrap64 (by omega) (by omega)
          have e4 : IntKind.i64.wrap (10 * (n : Int) + ((c : Int) - 48)) = 10 * (n : Int) + ((c : Int) - 48) := wrap64 (by omega) (by omega)
          by_cases hb : 1000000000000 < 10 * n + (c - 48)
          · rw [if_pos hb] at hnum
            rw [← hnum] at hR
            subst hR
            have hb' : decide ((1000000000000 : Int) < 10 * (n : Int) + ((c : Int) - 48)) = true := by simp; omega
            ((try simp -implicitDefEqProofs [h, d1, d2, e1, e2, e3, e4, hb']); repeat' first | ((first | with_reducible refine gdK_em (fun hc => ?_) (fun hc => ?_) | with_reducible refine cdK_em (fun hc => ?_) (fun hc => ?_) | with_reducible refine pickK_em (fun hc => ?_) (fun hc => ?_)) <;> (have hc' := hc; (try simp at hc'); simp -implicitDefEqProofs [hc, hc', h, d1, d2, e1, e2, e3, e4, hb'])))
          · rw [if_neg hb] at hnum
            have hb' : decide ((1000000000000 : Int) < 10 * (n : Int) + ((c : Int) - 48)) = false := by simp; omega
            ((try simp -implicitDefEqProofs [h, d1, d2, e1, e2, e3, e4, hb']); repeat' first | ((first | with_reducible refine gdK_em (fun hc => ?_) (fun hc => ?_) | with_reducible refine cdK_em (fun hc => ?_) (fun hc => ?_) | with_reducible refine pickK_em (fun hc => ?_) (fun hc => ?_)) <;> (have hc' := hc; (try simp at hc'); simp -implicitDefEqProofs [hc, hc', h, d1, d2, e1, e2, e3, e4, hb'])))
            exact ⟨p + 1, 10 * n + (c - 48), ⟨by omega, by omega, hnum⟩, by omega, rfl, by omega⟩
        · have : p = s.length := by omega
          subst this
          have : numR n (s.drop s.length) = some n := by simp [numR]
          rw [this] at hnum
          rw [← hnum] at hR
          subst hR
          ((try simp -implicitDefEqProofs); repeat' first | ((first | with_reducible refine gdK_em (fun hc => ?_) (fun hc => ?_) | with_reducible refine cdK_em (fun hc => ?_) (fun hc => ?_) | with_reducible refine pickK_em (fun hc => ?_) (fun hc => ?_)) <;> (have hc' := hc; (try simp at hc'); simp -implicitDefEqProofs [hc, hc'])))
      · rw [if_neg (fun h => hr h.2.2)] at hR
        subst hR
        have hr2 : decide (runR digI s < s.length) = true := by simp; omega
        subst hk
        (refine Pure.of_code mix Tryd.call137 k_137 (by simp) (fun hB => ?_); (try simp at hB); (try simp -implicitDefEqProofs [c_token_Value_137]))
        ((try simp at hrun); (try simp -implicitDefEqProofs [hn, hn', hr2]); repeat' first | ((first | with_reducible refine gdK_em (fun hc => ?_) (fun hc => ?_) | with_reducible refine cdK_em (fun hc => ?_) (fun hc => ?_) | with_reducible refine pickK_em (fun hc => ?_) (fun hc => ?_)) <;> (have hc' := hc; (try simp at hc'); simp -implicitDefEqProofs [hc, hc', hn, hn', hr2])) | (with_reducible apply callK_pure <;> first | (simp only [eras, era, eras_map]; first | with_reducible exact hrun | simpa using hrun) | (simp -implicitDefEqProofs [hn, hn', hr2])))
  · rw [if_neg (fun h => hk h.1)] at hR
    subst hR
    have hk' : (k != 2) = true := by simpa using hk
    (refine Pure.of_code mix Tryd.call137 k_137 (by simp) (fun hB => ?_); (try simp at hB); (try simp -implicitDefEqProofs [c_token_Value_137]))
    ((try simp at hrun); (try simp -implicitDefEqProofs [hk, hk']); repeat' first | ((first | with_reducible refine gdK_em (fun hc => ?_) (fun hc => ?_) | with_reducible refine cdK_em (fun hc => ?_) (fun hc => ?_) | with_reducible refine pickK_em (fun hc => ?_) (fun hc => ?_)) <;> (have hc' := hc; (try simp at hc'); simp -implicitDefEqProofs [hc, hc', hk, hk'])) | (with_reducible apply callK_pure <;> first | (simp only [eras, era, eras_map]; first | with_reducible exact hrun | simpa using hrun) | (simp -implicitDefEqProofs [hk, hk'])))
end Go.Proofs.YtkapabohpfkcoaaDoor
