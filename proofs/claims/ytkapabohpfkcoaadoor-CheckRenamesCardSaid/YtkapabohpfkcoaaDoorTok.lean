/- Walks of chapter 31: letters, digits, runs, keywords. -/
import Derived.Test.YtkapabohpfkcoaaDoorCodeB
import Derived.Test.YtkapabohpfkcoaaDoorApi
import Derived.Test.YtkapabohpfkcoaaDoorSlices
set_option linter.unusedSimpArgs false
set_option linter.unusedVariables false
set_option maxHeartbeats 1000000
set_option maxRecDepth 8000
namespace Go.Proofs.YtkapabohpfkcoaaDoor
open E

def ltrI (c : Int) : Bool := decide (97 ≤ c) && decide (c ≤ 122)
def digI (c : Int) : Bool := decide (48 ≤ c) && decide (c ≤ 57)
def nmcI (c : Int) : Bool := ltrI c || digI c || (c == 95)
abbrev vY (c : Int) : V := .t (.int .u8 c)
theorem w_letter (c : Int) : Pure Tryd.prog 150 [vY c] (vB (ltrI c)) := by
  unfold ltrI
  (refine Pure.of_code mix Tryd.call150 k_150 (by simp) (fun hB => ?_); (try simp at hB); (try simp -implicitDefEqProofs [c_token_letter_150]))
  ((try simp -implicitDefEqProofs); repeat' first | ((first | with_reducible refine gdK_em (fun hc => ?_) (fun hc => ?_) | with_reducible refine cdK_em (fun hc => ?_) (fun hc => ?_) | with_reducible refine pickK_em (fun hc => ?_) (fun hc => ?_)) <;> (have hc' := hc; (try simp at hc'); simp -implicitDefEqProofs [hc, hc'])))
theorem w_digit (c : Int) : Pure Tryd.prog 153 [vY c] (vB (digI c)) := by
  unfold digI
  (refine Pure.of_code mix Tryd.call153 k_153 (by simp) (fun hB => ?_); (try simp at hB); (try simp -implicitDefEqProofs [c_token_digit_153]))
  ((try simp -implicitDefEqProofs); repeat' first | ((first | with_reducible refine gdK_em (fun hc => ?_) (fun hc => ?_) | with_reducible refine cdK_em (fun hc => ?_) (fun hc => ?_) | with_reducible refine pickK_em (fun hc => ?_) (fun hc => ?_)) <;> (have hc' := hc; (try simp at hc'); simp -implicitDefEqProofs [hc, hc'])))
theorem w_nmc (c : Int) : Pure Tryd.prog 152 [vY c] (vB (nmcI c)) := by
  unfold nmcI
  have h1 := w_letter c
  have h2 := w_digit c
  generalize ltrI c = a at *
  generalize digI c = b at *
  (refine Pure.of_code mix Tryd.call152 k_152 (by simp) (fun hB => ?_); (try simp at hB); (try simp -implicitDefEqProofs [c_token_nextS1_152]))
  cases a <;> cases b <;> ((try simp at h1); (try simp at h2); (try simp -implicitDefEqProofs); repeat' first | ((first | with_reducible refine gdK_em (fun hc => ?_) (fun hc => ?_) | with_reducible refine cdK_em (fun hc => ?_) (fun hc => ?_) | with_reducible refine pickK_em (fun hc => ?_) (fun hc => ?_)) <;> (have hc' := hc; (try simp at hc'); simp -implicitDefEqProofs [hc, hc'])) | (with_reducible apply callK_pure <;> first | (simp only [eras, era, eras_map]; first | with_reducible exact h1 | with_reducible exact h2 | simpa using h1 | simpa using h2) | (simp -implicitDefEqProofs)))

/-- How many bytes at the beginning have a property. -/
def runR (p : Int → Bool) : List UInt8 → Nat
  | [] => 0
  | c :: s => if p c.toNat = true then 1 + runR p s else 0
theorem runR_le (p : Int → Bool) (s : List UInt8) : runR p s ≤ s.length := by
  induction s with
  | nil => simp [runR]
  | cons c s ih => simp only [runR, List.length_cons]; split <;> omega
theorem byteAt_succ (c : UInt8) (s : List UInt8) (k : Nat) : byteAt (c :: s) ((k : Int) + 1) = byteAt s k := by
  unfold byteAt
  rw [show ((k : Int) + 1).toNat = k + 1 from by omega, show ((k : Int)).toNat = k from by omega]
  simp
theorem runR_at (p : Int → Bool) : ∀ (s : List UInt8) (k : Nat), k ≤ s.length → (∀ j : Nat, j < k → p (byteAt s j) = true) → (k = s.length ∨ p (byteAt s k) = false) → runR p s = k
  | [], k, hk, _, _ => by simp at hk; subst hk; rfl
  | c :: s, 0, hk, h1, h2 => by
    have : p (byteAt (c :: s) ((0 : Nat) : Int)) = false := h2.resolve_left (by simp)
    simp only [runR]
    rw [if_neg]
    have e : byteAt (c :: s) ((0 : Nat) : Int) = (c.toNat : Int) := rfl
    rw [e] at this
    simp [this]
  | c :: s, k + 1, hk, h1, h2 => by
    have h0 := h1 0 (by omega)
    have e : byteAt (c :: s) ((0 : Nat) : Int) = (c.toNat : Int) := rfl
    rw [e] at h0
    simp only [runR, h0, if_true]
    have := runR_at p s k (by simpa using hk) (fun j hj => by
      have := h1 (j + 1) (by omega)
      rwa [show (((j + 1 : Nat)) : Int) = (j : Int) + 1 from by push_cast; rfl, byteAt_succ] at this) (h2.imp (fun h => by simpa using h) (fun h => by
      rwa [show (((k + 1 : Nat)) : Int) = (k : Int) + 1 from by push_cast; rfl, byteAt_succ] at h))
    omega
theorem w_run (p : Int → Bool) (f : Nat) (hf : ∀ c : Int, Pure Tryd.prog f [vY c] (vB (p c))) (s : List UInt8) (hs : s.length ≤ 1000000) : Pure Tryd.prog 151 [vS s, .fn (.func f) []] (vI (runR p s)) := by
  generalize hR : vI (runR p s) = R
  (refine Pure.of_code mix Tryd.call151 k_151 (by simp) (fun hB => ?_); (try simp at hB); (try simp -implicitDefEqProofs [c_token_run_151]))
  refine loop_rule (X := Nat) (fun k => k ≤ s.length ∧ ∀ j : Nat, j < k → p (byteAt s j) = true) (fun k => [(0, vS s), (1, .fn (.func f) []), (7, vI s.length), (8, vI k)]) (fun _ => St0) (fun k => s.length - k) 0 ⟨by omega, fun j hj => by omega⟩ (by simp) ?_
  rintro k ⟨hk, hp⟩ hbd
  rcases Nat.lt_or_ge k s.length with h | h
  · have hc := hf (byteAt s k)
    have e3 : IntKind.i64.wrap ((k : Int) + 1) = (k : Int) + 1 := wrap64 (by omega) (by omega)
    cases hpk : p (byteAt s k)
    · rw [runR_at p s k hk hp (.inr hpk)] at hR
      subst hR
      rw [hpk] at hc
      ((try simp at hc); (try simp -implicitDefEqProofs [h, e3]); repeat' first | ((first | with_reducible refine gdK_em (fun hc => ?_) (fun hc => ?_) | with_reducible refine cdK_em (fun hc => ?_) (fun hc => ?_) | with_reducible refine pickK_em (fun hc => ?_) (fun hc => ?_)) <;> (have hc' := hc; (try simp at hc'); simp -implicitDefEqProofs [hc, hc', h, e3])) | (with_reducible apply callK_pure <;> first | (simp only [eras, era, eras_map]; first | with_reducible exact hc | simpa using hc) | (simp -implicitDefEqProofs [h, e3])))
    · rw [hpk] at hc
      ((try simp at hc); (try simp -implicitDefEqProofs [h, e3]); repeat' first | ((first | with_reducible refine gdK_em (fun hc => ?_) (fun hc => ?_) | with_reducible refine cdK_em (fun hc => ?_) (fun hc => ?_) | with_reducible refine pickK_em (fun hc => ?_) (fun hc => ?_)) <;> (have hc' := hc; (try simp at hc'); simp -implicitDefEqProofs [hc, hc', h, e3])) | (with_reducible apply callK_pure <;> first | (simp only [eras, era, eras_map]; first | with_reducible exact hc | simpa using hc) | (simp -implicitDefEqProofs [h, e3])))
      refine ⟨k + 1, ⟨by omega, fun j hj => ?_⟩, by omega, by push_cast; rfl⟩
      rcases Nat.lt_or_ge j k with h1 | h1
      · exact hp j h1
      · have : j = k := by omega
        subst this; exact hpk
  · have : k = s.length := by omega
    rw [runR_at p s k hk hp (.inl this)] at hR
    subst this
    subst hR
    ((try simp -implicitDefEqProofs); repeat' first | ((first | with_reducible refine gdK_em (fun hc => ?_) (fun hc => ?_) | with_reducible refine cdK_em (fun hc => ?_) (fun hc => ?_) | with_reducible refine pickK_em (fun hc => ?_) (fun hc => ?_)) <;> (have hc' := hc; (try simp at hc'); simp -implicitDefEqProofs [hc, hc'])))

def kwL : List (List UInt8) := [[114, 117, 108, 101], [101, 97, 99, 104], [101, 110, 116, 105, 116, 121], [112, 97, 105, 114], [108, 101, 116], [114, 101, 113, 117, 105, 114, 101], [112, 111, 115, 116], [116, 111], [112, 101, 114], [97, 110, 100], [111, 114], [110, 111, 116], [109, 105, 110], [109, 97, 120], [97, 98, 115], [98, 97, 108, 97, 110, 99, 101], [112, 97, 114, 116, 110, 101, 114], [115, 104, 97, 114, 101]]
def kwB (s : List UInt8) : Bool := kwL.contains s
theorem w_kw (s : List UInt8) : Pure Tryd.prog 113 [vS s] (vB (kwB s)) := by
  generalize hR : vB (kwB s) = R
  (refine Pure.of_code mix Tryd.call113 k_113 (by simp) (fun hB => ?_); (try simp at hB); (try simp -implicitDefEqProofs [c_token_Keyword_113]))
  ((try simp -implicitDefEqProofs); repeat' first | ((first | with_reducible refine gdK_em (fun hc => ?_) (fun hc => ?_) | with_reducible refine cdK_em (fun hc => ?_) (fun hc => ?_) | with_reducible refine pickK_em (fun hc => ?_) (fun hc => ?_)) <;> (have hc' := hc; (try simp at hc'); simp -implicitDefEqProofs [hc, hc'])))
  all_goals (subst hR; simp_all [kwB, kwL])
end Go.Proofs.YtkapabohpfkcoaaDoor
