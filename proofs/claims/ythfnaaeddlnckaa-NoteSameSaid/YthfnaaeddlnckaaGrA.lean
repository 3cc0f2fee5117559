/- Walks of the groups: codes and names. -/
import Derived.Test.YthfnaaeddlnckaaChA
import Derived.Test.YthfnaaeddlnckaaSlices
import Derived.Test.YthfnaaeddlnckaaCalA
section
set_option linter.unusedSimpArgs false
set_option linter.unusedVariables false
set_option maxHeartbeats 400000
set_option maxRecDepth 8000
namespace Go.Proofs.Ythfnaaeddlnckaa
open E

def letB (n : Int) : Bool := (decide (97 ≤ n) && decide (n ≤ 122)) || (decide (65 ≤ n) && decide (n ≤ 90))
def capAt (s : List UInt8) (k : Nat) : Bool := decide (65 ≤ byteAt s k) && decide (byteAt s k ≤ 90)
def chAt (s : List UInt8) (k : Nat) : Bool := letB (byteAt s k) || (!(k == 0) && (byteAt s k == 45 || (decide (48 ≤ byteAt s k) && decide (byteAt s k ≤ 57))))
def curB (s : List UInt8) : Bool := allB (capAt s) s.length && decide (s.length = 3)
def nameB (s : List UInt8) : Bool := allB (chAt s) s.length && (decide (1 ≤ s.length) && decide (s.length ≤ 16))

theorem w_letter (n : Int) : Pure Try.prog 98 [.t (.int .u8 n)] (vB (letB n)) := by
  (refine Pure.of_code mix Try.call98 k_98 (by simp) (fun hB => ?_); (try simp at hB); (try simp -implicitDefEqProofs [c_group_letter_98]))
  ((try simp -implicitDefEqProofs [letB]); repeat' first | (with_reducible refine gdK_em (fun hc => ?_) (fun hc => ?_) <;> (have hc' := hc; (try simp at hc'); simp -implicitDefEqProofs [hc, hc', letB])) | (with_reducible refine cdK_em (fun hc => ?_) (fun hc => ?_) <;> (have hc' := hc; (try simp at hc'); simp -implicitDefEqProofs [hc, hc', letB])) | (with_reducible refine pickK_em (fun hc => ?_) (fun hc => ?_) <;> (have hc' := hc; (try simp at hc'); simp -implicitDefEqProofs [hc, hc', letB])))
  all_goals first | omega | grind
theorem w_rletter (n : Int) : Pure Try.prog 82 [.t (.int .u8 n)] (vB (letB n)) := by
  (refine Pure.of_code mix Try.call82 k_82 (by simp) (fun hB => ?_); (try simp at hB); (try simp -implicitDefEqProofs [c_tallystoneref10_letter_82]))
  ((try simp -implicitDefEqProofs [letB]); repeat' first | (with_reducible refine gdK_em (fun hc => ?_) (fun hc => ?_) <;> (have hc' := hc; (try simp at hc'); simp -implicitDefEqProofs [hc, hc', letB])) | (with_reducible refine cdK_em (fun hc => ?_) (fun hc => ?_) <;> (have hc' := hc; (try simp at hc'); simp -implicitDefEqProofs [hc, hc', letB])) | (with_reducible refine pickK_em (fun hc => ?_) (fun hc => ?_) <;> (have hc' := hc; (try simp at hc'); simp -implicitDefEqProofs [hc, hc', letB])))
  all_goals first | omega | grind

theorem w_cur (s : List UInt8) (hs : s.length ≤ 9223372036854775807) : Pure Try.prog 72 [vS s] (vB (curB s)) := by
  unfold curB
  (refine Pure.of_code mix Try.call72 k_72 (by simp) (fun hB => ?_); (try simp at hB); (try simp -implicitDefEqProofs [c_group_currency_72]))
  refine loop_rule (X := Nat) (fun k => k ≤ s.length ∧ allB (capAt s) k = true) (fun k => [(0, vS s), (5, vI s.length), (6, vI k)]) (fun _ => ⟨[], []⟩) (fun k => s.length - k) 0 ⟨by simp, rfl⟩ (by simp) ?_
  rintro k ⟨hk, hn⟩ hbd
  rcases Nat.lt_or_ge k s.length with h | h
  · have hsucc := allB_succ (capAt s) k
    have hfl := allB_false (p := capAt s) h
    have hcap : capAt s k = (decide (65 ≤ byteAt s k) && decide (byteAt s k ≤ 90)) := rfl
    have e3 : IntKind.i64.wrap ((k : Int) + 1) = (k : Int) + 1 := wrap64 (by omega) (by omega)
    have h' : ¬ s.length ≤ k := by omega
    rcases (by omega : byteAt s k < 65 ∨ 65 ≤ byteAt s k) with g | g
    · have hf := hfl (by rw [hcap]; simp; omega)
      rw [hf]
      ((try simp -implicitDefEqProofs [h, h', e3, g]); repeat' first | (with_reducible refine gdK_em (fun hc => ?_) (fun hc => ?_) <;> (have hc' := hc; (try simp at hc'); simp -implicitDefEqProofs [hc, hc', h, h', e3, g])) | (with_reducible refine cdK_em (fun hc => ?_) (fun hc => ?_) <;> (have hc' := hc; (try simp at hc'); simp -implicitDefEqProofs [hc, hc', h, h', e3, g])) | (with_reducible refine pickK_em (fun hc => ?_) (fun hc => ?_) <;> (have hc' := hc; (try simp at hc'); simp -implicitDefEqProofs [hc, hc', h, h', e3, g])))
    · have g' : ¬ byteAt s k < 65 := by omega
      rcases (by omega : 90 < byteAt s k ∨ byteAt s k ≤ 90) with g2 | g2
      · have hf := hfl (by rw [hcap]; simp; omega)
        rw [hf]
        ((try simp -implicitDefEqProofs [h, h', e3, g, g', g2]); repeat' first | (with_reducible refine gdK_em (fun hc => ?_) (fun hc => ?_) <;> (have hc' := hc; (try simp at hc'); simp -implicitDefEqProofs [hc, hc', h, h', e3, g, g', g2])) | (with_reducible refine cdK_em (fun hc => ?_) (fun hc => ?_) <;> (have hc' := hc; (try simp at hc'); simp -implicitDefEqProofs [hc, hc', h, h', e3, g, g', g2])) | (with_reducible refine pickK_em (fun hc => ?_) (fun hc => ?_) <;> (have hc' := hc; (try simp at hc'); simp -implicitDefEqProofs [hc, hc', h, h', e3, g, g', g2])))
      · have g2' : ¬ 90 < byteAt s k := by omega
        have hs' : allB (capAt s) (k+1) = true := by rw [hsucc, hn, hcap]; simp [g, g2]
        ((try simp -implicitDefEqProofs [h, h', e3, g, g', g2, g2']); repeat' first | (with_reducible refine gdK_em (fun hc => ?_) (fun hc => ?_) <;> (have hc' := hc; (try simp at hc'); simp -implicitDefEqProofs [hc, hc', h, h', e3, g, g', g2, g2'])) | (with_reducible refine cdK_em (fun hc => ?_) (fun hc => ?_) <;> (have hc' := hc; (try simp at hc'); simp -implicitDefEqProofs [hc, hc', h, h', e3, g, g', g2, g2'])) | (with_reducible refine pickK_em (fun hc => ?_) (fun hc => ?_) <;> (have hc' := hc; (try simp at hc'); simp -implicitDefEqProofs [hc, hc', h, h', e3, g, g', g2, g2'])))
        all_goals exact ⟨k + 1, ⟨by omega, hs'⟩, by omega, by omega⟩
  · have : k = s.length := by omega
    subst this
    rw [hn]
    rcases Nat.decEq s.length 3 with g | g
    · have g' : ¬ (s.length : Int) = 3 := by omega
      have g2 : ((s.length : Int) == 3) = false := by simpa using g'
      ((try simp -implicitDefEqProofs [g, g', g2]); repeat' first | (with_reducible refine gdK_em (fun hc => ?_) (fun hc => ?_) <;> (have hc' := hc; (try simp at hc'); simp -implicitDefEqProofs [hc, hc', g, g', g2])) | (with_reducible refine cdK_em (fun hc => ?_) (fun hc => ?_) <;> (have hc' := hc; (try simp at hc'); simp -implicitDefEqProofs [hc, hc', g, g', g2])) | (with_reducible refine pickK_em (fun hc => ?_) (fun hc => ?_) <;> (have hc' := hc; (try simp at hc'); simp -implicitDefEqProofs [hc, hc', g, g', g2])))
    · have g' : (s.length : Int) = 3 := by omega
      have g2 : ((s.length : Int) == 3) = true := by simpa using g'
      ((try simp -implicitDefEqProofs [g, g', g2]); repeat' first | (with_reducible refine gdK_em (fun hc => ?_) (fun hc => ?_) <;> (have hc' := hc; (try simp at hc'); simp -implicitDefEqProofs [hc, hc', g, g', g2])) | (with_reducible refine cdK_em (fun hc => ?_) (fun hc => ?_) <;> (have hc' := hc; (try simp at hc'); simp -implicitDefEqProofs [hc, hc', g, g', g2])) | (with_reducible refine pickK_em (fun hc => ?_) (fun hc => ?_) <;> (have hc' := hc; (try simp at hc'); simp -implicitDefEqProofs [hc, hc', g, g', g2])))

theorem w_rcur (s : List UInt8) (hs : s.length ≤ 9223372036854775807) : Pure Try.prog 60 [vS s] (vB (curB s)) := by
  unfold curB
  (refine Pure.of_code mix Try.call60 k_60 (by simp) (fun hB => ?_); (try simp at hB); (try simp -implicitDefEqProofs [c_tallystoneref10_Currency_60]))
  refine loop_rule (X := Nat) (fun k => k ≤ s.length ∧ allB (capAt s) k = true) (fun k => [(0, vS s), (3, vI k)]) (fun _ => ⟨[], []⟩) (fun k => s.length - k) 0 ⟨by simp, rfl⟩ (by simp) ?_
  rintro k ⟨hk, hn⟩ hbd
  rcases Nat.lt_or_ge k s.length with h | h
  · have hsucc := allB_succ (capAt s) k
    have hfl := allB_false (p := capAt s) h
    have hcap : capAt s k = (decide (65 ≤ byteAt s k) && decide (byteAt s k ≤ 90)) := rfl
    have e3 : IntKind.i64.wrap ((k : Int) + 1) = (k : Int) + 1 := wrap64 (by omega) (by omega)
    have h' : ¬ s.length ≤ k := by omega
    rcases (by omega : byteAt s k < 65 ∨ 65 ≤ byteAt s k) with g | g
    · have hf := hfl (by rw [hcap]; simp; omega)
      rw [hf]
      ((try simp -implicitDefEqProofs [h, h', e3, g]); repeat' first | (with_reducible refine gdK_em (fun hc => ?_) (fun hc => ?_) <;> (have hc' := hc; (try simp at hc'); simp -implicitDefEqProofs [hc, hc', h, h', e3, g])) | (with_reducible refine cdK_em (fun hc => ?_) (fun hc => ?_) <;> (have hc' := hc; (try simp at hc'); simp -implicitDefEqProofs [hc, hc', h, h', e3, g])) | (with_reducible refine pickK_em (fun hc => ?_) (fun hc => ?_) <;> (have hc' := hc; (try simp at hc'); simp -implicitDefEqProofs [hc, hc', h, h', e3, g])))
    · have g' : ¬ byteAt s k < 65 := by omega
      rcases (by omega : 90 < byteAt s k ∨ byteAt s k ≤ 90) with g2 | g2
      · have hf := hfl (by rw [hcap]; simp; omega)
        rw [hf]
        ((try simp -implicitDefEqProofs [h, h', e3, g, g', g2]); repeat' first | (with_reducible refine gdK_em (fun hc => ?_) (fun hc => ?_) <;> (have hc' := hc; (try simp at hc'); simp -implicitDefEqProofs [hc, hc', h, h', e3, g, g', g2])) | (with_reducible refine cdK_em (fun hc => ?_) (fun hc => ?_) <;> (have hc' := hc; (try simp at hc'); simp -implicitDefEqProofs [hc, hc', h, h', e3, g, g', g2])) | (with_reducible refine pickK_em (fun hc => ?_) (fun hc => ?_) <;> (have hc' := hc; (try simp at hc'); simp -implicitDefEqProofs [hc, hc', h, h', e3, g, g', g2])))
      · have g2' : ¬ 90 < byteAt s k := by omega
        have hs' : allB (capAt s) (k+1) = true := by rw [hsucc, hn, hcap]; simp [g, g2]
        ((try simp -implicitDefEqProofs [h, h', e3, g, g', g2, g2']); repeat' first | (with_reducible refine gdK_em (fun hc => ?_) (fun hc => ?_) <;> (have hc' := hc; (try simp at hc'); simp -implicitDefEqProofs [hc, hc', h, h', e3, g, g', g2, g2'])) | (with_reducible refine cdK_em (fun hc => ?_) (fun hc => ?_) <;> (have hc' := hc; (try simp at hc'); simp -implicitDefEqProofs [hc, hc', h, h', e3, g, g', g2, g2'])) | (with_reducible refine pickK_em (fun hc => ?_) (fun hc => ?_) <;> (have hc' := hc; (try simp at hc'); simp -implicitDefEqProofs [hc, hc', h, h', e3, g, g', g2, g2'])))
        all_goals exact ⟨k + 1, ⟨by omega, hs'⟩, by omega, by omega⟩
  · have : k = s.length := by omega
    subst this
    rw [hn]
    rcases Nat.decEq s.length 3 with g | g
    · have g' : ¬ (s.length : Int) = 3 := by omega
      have g2 : ((s.length : Int) == 3) = false := by simpa using g'
      ((try simp -implicitDefEqProofs [g, g', g2]); repeat' first | (with_reducible refine gdK_em (fun hc => ?_) (fun hc => ?_) <;> (have hc' := hc; (try simp at hc'); simp -implicitDefEqProofs [hc, hc', g, g', g2])) | (with_reducible refine cdK_em (fun hc => ?_) (fun hc => ?_) <;> (have hc' := hc; (try simp at hc'); simp -implicitDefEqProofs [hc, hc', g, g', g2])) | (with_reducible refine pickK_em (fun hc => ?_) (fun hc => ?_) <;> (have hc' := hc; (try simp at hc'); simp -implicitDefEqProofs [hc, hc', g, g', g2])))
    · have g' : (s.length : Int) = 3 := by omega
      have g2 : ((s.length : Int) == 3) = true := by simpa using g'
      ((try simp -implicitDefEqProofs [g, g', g2]); repeat' first | (with_reducible refine gdK_em (fun hc => ?_) (fun hc => ?_) <;> (have hc' := hc; (try simp at hc'); simp -implicitDefEqProofs [hc, hc', g, g', g2])) | (with_reducible refine cdK_em (fun hc => ?_) (fun hc => ?_) <;> (have hc' := hc; (try simp at hc'); simp -implicitDefEqProofs [hc, hc', g, g', g2])) | (with_reducible refine pickK_em (fun hc => ?_) (fun hc => ?_) <;> (have hc' := hc; (try simp at hc'); simp -implicitDefEqProofs [hc, hc', g, g', g2])))

theorem w_name (s : List UInt8) (hs : s.length ≤ 9223372036854775807) : Pure Try.prog 89 [vS s] (vB (nameB s)) := by
  unfold nameB
  (refine Pure.of_code mix Try.call89 k_89 (by simp) (fun hB => ?_); (try simp at hB); (try simp -implicitDefEqProofs [c_group_name_89]))
  refine loop_rule (X := Nat) (fun k => k ≤ s.length ∧ allB (chAt s) k = true) (fun k => [(0, vS s), (6, vI s.length), (7, vI k)]) (fun _ => ⟨[], []⟩) (fun k => s.length - k) 0 ⟨by simp, rfl⟩ (by simp) ?_
  rintro k ⟨hk, hn⟩ hbd
  rcases Nat.lt_or_ge k s.length with h | h
  · have hsucc := allB_succ (chAt s) k
    have hfl := allB_false (p := chAt s) h
    have hl := w_letter (byteAt s k)
    have hcap : chAt s k = (letB (byteAt s k) || (!(k == 0) && (byteAt s k == 45 || (decide (48 ≤ byteAt s k) && decide (byteAt s k ≤ 57))))) := rfl
    have e3 : IntKind.i64.wrap ((k : Int) + 1) = (k : Int) + 1 := wrap64 (by omega) (by omega)
    have h' : ¬ s.length ≤ k := by omega
    generalize hL : letB (byteAt s k) = L at hl hcap
    cases hC : chAt s k
    · rw [hfl hC]
      rw [hC] at hcap
      ((try simp at hl); (try simp -implicitDefEqProofs [h, h', e3]); repeat' first | (with_reducible refine gdK_em (fun hc => ?_) (fun hc => ?_) <;> (have hc' := hc; (try simp at hc'); simp -implicitDefEqProofs [hc, hc', h, h', e3])) | (with_reducible refine cdK_em (fun hc => ?_) (fun hc => ?_) <;> (have hc' := hc; (try simp at hc'); simp -implicitDefEqProofs [hc, hc', h, h', e3])) | (with_reducible refine pickK_em (fun hc => ?_) (fun hc => ?_) <;> (have hc' := hc; (try simp at hc'); simp -implicitDefEqProofs [hc, hc', h, h', e3])) | (with_reducible apply callK_pure <;> first | (simp only [eras, era, eras_map]; first | with_reducible exact hl | simpa using hl) | (simp -implicitDefEqProofs [h, h', e3])))
      all_goals first | (exfalso; grind) | skip
    · have hs' : allB (chAt s) (k+1) = true := by rw [hsucc, hn, hC]; simp
      rw [hC] at hcap
      ((try simp at hl); (try simp -implicitDefEqProofs [h, h', e3]); repeat' first | (with_reducible refine gdK_em (fun hc => ?_) (fun hc => ?_) <;> (have hc' := hc; (try simp at hc'); simp -implicitDefEqProofs [hc, hc', h, h', e3])) | (with_reducible refine cdK_em (fun hc => ?_) (fun hc => ?_) <;> (have hc' := hc; (try simp at hc'); simp -implicitDefEqProofs [hc, hc', h, h', e3])) | (with_reducible refine pickK_em (fun hc => ?_) (fun hc => ?_) <;> (have hc' := hc; (try simp at hc'); simp -implicitDefEqProofs [hc, hc', h, h', e3])) | (with_reducible apply callK_pure <;> first | (simp only [eras, era, eras_map]; first | with_reducible exact hl | simpa using hl) | (simp -implicitDefEqProofs [h, h', e3])))
      all_goals first | exact ⟨k + 1, ⟨by omega, hs'⟩, by omega, by omega⟩ | (exfalso; grind) | skip
  · have : k = s.length := by omega
    subst this
    rw [hn]
    ((try simp -implicitDefEqProofs); repeat' first | (with_reducible refine gdK_em (fun hc => ?_) (fun hc => ?_) <;> (have hc' := hc; (try simp at hc'); simp -implicitDefEqProofs [hc, hc'])) | (with_reducible refine cdK_em (fun hc => ?_) (fun hc => ?_) <;> (have hc' := hc; (try simp at hc'); simp -implicitDefEqProofs [hc, hc'])) | (with_reducible refine pickK_em (fun hc => ?_) (fun hc => ?_) <;> (have hc' := hc; (try simp at hc'); simp -implicitDefEqProofs [hc, hc'])))
    all_goals first | omega | grind

theorem w_rname (s : List UInt8) (hs : s.length ≤ 9223372036854775807) : Pure Try.prog 65 [vS s] (vB (nameB s)) := by
  unfold nameB
  (refine Pure.of_code mix Try.call65 k_65 (by simp) (fun hB => ?_); (try simp at hB); (try simp -implicitDefEqProofs [c_tallystoneref10_Name_65]))
  refine loop_rule (X := Nat) (fun k => k ≤ s.length ∧ allB (chAt s) k = true) (fun k => [(0, vS s), (3, vI k)]) (fun _ => ⟨[], []⟩) (fun k => s.length - k) 0 ⟨by simp, rfl⟩ (by simp) ?_
  rintro k ⟨hk, hn⟩ hbd
  rcases Nat.lt_or_ge k s.length with h | h
  · have hsucc := allB_succ (chAt s) k
    have hfl := allB_false (p := chAt s) h
    have hl := w_rletter (byteAt s k)
    have hcap : chAt s k = (letB (byteAt s k) || (!(k == 0) && (byteAt s k == 45 || (decide (48 ≤ byteAt s k) && decide (byteAt s k ≤ 57))))) := rfl
    have e3 : IntKind.i64.wrap ((k : Int) + 1) = (k : Int) + 1 := wrap64 (by omega) (by omega)
    have h' : ¬ s.length ≤ k := by omega
    generalize hL : letB (byteAt s k) = L at hl hcap
    cases hC : chAt s k
    · rw [hfl hC]
      rw [hC] at hcap
      ((try simp at hl); (try simp -implicitDefEqProofs [h, h', e3]); repeat' first | (with_reducible refine gdK_em (fun hc => ?_) (fun hc => ?_) <;> (have hc' := hc; (try simp at hc'); simp -implicitDefEqProofs [hc, hc', h, h', e3])) | (with_reducible refine cdK_em (fun hc => ?_) (fun hc => ?_) <;> (have hc' := hc; (try simp at hc'); simp -implicitDefEqProofs [hc, hc', h, h', e3])) | (with_reducible refine pickK_em (fun hc => ?_) (fun hc => ?_) <;> (have hc' := hc; (try simp at hc'); simp -implicitDefEqProofs [hc, hc', h, h', e3])) | (with_reducible apply callK_pure <;> first | (simp only [eras, era, eras_map]; first | with_reducible exact hl | simpa using hl) | (simp -implicitDefEqProofs [h, h', e3])))
      all_goals first | (exfalso; grind) | skip
    · have hs' : allB (chAt s) (k+1) = true := by rw [hsucc, hn, hC]; simp
      rw [hC] at hcap
      ((try simp at hl); (try simp -implicitDefEqProofs [h, h', e3]); repeat' first | (with_reducible refine gdK_em (fun hc => ?_) (fun hc => ?_) <;> (have hc' := hc; (try simp at hc'); simp -implicitDefEqProofs [hc, hc', h, h', e3])) | (with_reducible refine cdK_em (fun hc => ?_) (fun hc => ?_) <;> (have hc' := hc; (try simp at hc'); simp -implicitDefEqProofs [hc, hc', h, h', e3])) | (with_reducible refine pickK_em (fun hc => ?_) (fun hc => ?_) <;> (have hc' := hc; (try simp at hc'); simp -implicitDefEqProofs [hc, hc', h, h', e3])) | (with_reducible apply callK_pure <;> first | (simp only [eras, era, eras_map]; first | with_reducible exact hl | simpa using hl) | (simp -implicitDefEqProofs [h, h', e3])))
      all_goals first | exact ⟨k + 1, ⟨by omega, hs'⟩, by omega, by omega⟩ | (exfalso; grind) | skip
  · have : k = s.length := by omega
    subst this
    rw [hn]
    ((try simp -implicitDefEqProofs); repeat' first | (with_reducible refine gdK_em (fun hc => ?_) (fun hc => ?_) <;> (have hc' := hc; (try simp at hc'); simp -implicitDefEqProofs [hc, hc'])) | (with_reducible refine cdK_em (fun hc => ?_) (fun hc => ?_) <;> (have hc' := hc; (try simp at hc'); simp -implicitDefEqProofs [hc, hc'])) | (with_reducible refine pickK_em (fun hc => ?_) (fun hc => ?_) <;> (have hc' := hc; (try simp at hc'); simp -implicitDefEqProofs [hc, hc'])))
    all_goals first | omega | grind
end Go.Proofs.Ythfnaaeddlnckaa
end

/- Walks of the groups: the roles, the accounts. -/
section
set_option linter.unusedSimpArgs false
set_option linter.unusedVariables false
set_option maxHeartbeats 1000000
set_option maxRecDepth 8000
namespace Go.Proofs.Ythfnaaeddlnckaa
open E

def rolesOf (r : Roles) : List Role := [
  ⟨[105, 110, 118, 101, 115, 116, 109, 101, 110, 116], r.inv, 1, 3, true⟩,
  ⟨[103, 111, 111, 100, 119, 105, 108, 108], r.gdw, 1, 3, false⟩,
  ⟨[97, 115, 115, 111, 99, 105, 97, 116, 101, 115], r.asc, 1, 3, false⟩,
  ⟨[105, 110, 118, 101, 110, 116, 111, 114, 121], r.ivt, 1, 1, true⟩,
  ⟨[114, 101, 115, 101, 114, 118, 101], r.rsv, 3, 3, false⟩,
  ⟨[109, 105, 110, 111, 114, 105, 116, 121], r.mnt, 3, 3, false⟩,
  ⟨[114, 101, 116, 97, 105, 110, 101, 100], r.rtn, 3, 3, true⟩,
  ⟨[97, 99, 113, 117, 105, 114, 101, 100], r.acq, 3, 3, false⟩,
  ⟨[111, 119, 110, 101, 114, 115], r.own, 3, 3, false⟩,
  ⟨[100, 105, 115, 112, 111, 115, 97, 108], r.dsp, 4, 2, false⟩,
  ⟨[97, 115, 115, 111, 99, 105, 97, 116, 101, 80, 114, 111, 102, 105, 116], r.asp, 4, 2, false⟩,
  ⟨[100, 105, 118, 105, 100, 101, 110, 100, 115], r.dvd, 4, 2, true⟩,
  ⟨[109, 105, 110, 111, 114, 105, 116, 121, 80, 114, 111, 102, 105, 116], r.mnp, 5, 2, false⟩,
  ⟨[100, 105, 102, 102, 101, 114, 101, 110, 99, 101], r.dif, 5, 2, false⟩,
  ⟨[109, 97, 114, 103, 105, 110], r.mrg, 5, 2, false⟩]
theorem rolesOf_length (r : Roles) : (rolesOf r).length = 15 := rfl
theorem w_roles (r : Roles) : Pure Try.prog 87 [r.v] (Role.l (rolesOf r)) := by
  (refine Pure.of_code mix Try.call87 k_87 (by simp) (fun hB => ?_); (try simp at hB); (try simp -implicitDefEqProofs [c_group_roles_87, Roles.c]))
  ((try simp -implicitDefEqProofs [rolesOf, Role.c, Roles.c, bslK]); repeat' first | (with_reducible refine gdK_em (fun hc => ?_) (fun hc => ?_) <;> (have hc' := hc; (try simp at hc'); simp -implicitDefEqProofs [hc, hc', rolesOf, Role.c, Roles.c, bslK])) | (with_reducible refine cdK_em (fun hc => ?_) (fun hc => ?_) <;> (have hc' := hc; (try simp at hc'); simp -implicitDefEqProofs [hc, hc', rolesOf, Role.c, Roles.c, bslK])) | (with_reducible refine pickK_em (fun hc => ?_) (fun hc => ?_) <;> (have hc' := hc; (try simp at hc'); simp -implicitDefEqProofs [hc, hc', rolesOf, Role.c, Roles.c, bslK])))
theorem w_rroles (r : Roles) : Pure Try.prog 64 [r.v] (Role.l (rolesOf r)) := by
  (refine Pure.of_code mix Try.call64 k_64 (by simp) (fun hB => ?_); (try simp at hB); (try simp -implicitDefEqProofs [c_tallystoneref10_Roles_64, Roles.c]))
  ((try simp -implicitDefEqProofs [rolesOf, Role.c, Roles.c, bslK]); repeat' first | (with_reducible refine gdK_em (fun hc => ?_) (fun hc => ?_) <;> (have hc' := hc; (try simp at hc'); simp -implicitDefEqProofs [hc, hc', rolesOf, Role.c, Roles.c, bslK])) | (with_reducible refine cdK_em (fun hc => ?_) (fun hc => ?_) <;> (have hc' := hc; (try simp at hc'); simp -implicitDefEqProofs [hc, hc', rolesOf, Role.c, Roles.c, bslK])) | (with_reducible refine pickK_em (fun hc => ?_) (fun hc => ?_) <;> (have hc' := hc; (try simp at hc'); simp -implicitDefEqProofs [hc, hc', rolesOf, Role.c, Roles.c, bslK])))

def basedS (a : Account) : Bool :=
  if a.kind = 1 ∨ a.kind = 2 then (a.basis == 1 || a.basis == 3) else if a.kind = 3 then a.basis == 3 else a.basis == 2
theorem w_based (a : Account) : Pure Try.prog 86 [a.v] (vB (basedS a)) := by
  (refine Pure.of_code mix Try.call86 k_86 (by simp) (fun hB => ?_); (try simp at hB); (try simp -implicitDefEqProofs [c_group_based_86, Account.c]))
  ((try simp -implicitDefEqProofs [basedS]); repeat' first | (with_reducible refine gdK_em (fun hc => ?_) (fun hc => ?_) <;> (have hc' := hc; (try simp at hc'); simp -implicitDefEqProofs [hc, hc', basedS])) | (with_reducible refine cdK_em (fun hc => ?_) (fun hc => ?_) <;> (have hc' := hc; (try simp at hc'); simp -implicitDefEqProofs [hc, hc', basedS])) | (with_reducible refine pickK_em (fun hc => ?_) (fun hc => ?_) <;> (have hc' := hc; (try simp at hc'); simp -implicitDefEqProofs [hc, hc', basedS])))
  all_goals first | grind | skip
theorem w_rbasis (a : Account) : Pure Try.prog 63 [a.v] (vB (basedS a)) := by
  (refine Pure.of_code mix Try.call63 k_63 (by simp) (fun hB => ?_); (try simp at hB); (try simp -implicitDefEqProofs [c_tallystoneref10_basis_63, Account.c]))
  ((try simp -implicitDefEqProofs [basedS]); repeat' first | (with_reducible refine gdK_em (fun hc => ?_) (fun hc => ?_) <;> (have hc' := hc; (try simp at hc'); simp -implicitDefEqProofs [hc, hc', basedS])) | (with_reducible refine cdK_em (fun hc => ?_) (fun hc => ?_) <;> (have hc' := hc; (try simp at hc'); simp -implicitDefEqProofs [hc, hc', basedS])) | (with_reducible refine pickK_em (fun hc => ?_) (fun hc => ?_) <;> (have hc' := hc; (try simp at hc'); simp -implicitDefEqProofs [hc, hc', basedS])))
  all_goals first | grind | skip
theorem w_acc1 (a : Account) : Pure Try.prog 85 [a.v] (vB (!basedS a)) := by
  have h1 := w_based a
  (refine Pure.of_code mix Try.call85 k_85 (by simp) (fun hB => ?_); (try simp at hB); (try simp -implicitDefEqProofs [c_group_accountsS1_85, Account.c]))
  ((try simp at h1); (try simp -implicitDefEqProofs); repeat' first | (with_reducible refine gdK_em (fun hc => ?_) (fun hc => ?_) <;> (have hc' := hc; (try simp at hc'); simp -implicitDefEqProofs [hc, hc'])) | (with_reducible refine cdK_em (fun hc => ?_) (fun hc => ?_) <;> (have hc' := hc; (try simp at hc'); simp -implicitDefEqProofs [hc, hc'])) | (with_reducible refine pickK_em (fun hc => ?_) (fun hc => ?_) <;> (have hc' := hc; (try simp at hc'); simp -implicitDefEqProofs [hc, hc'])) | (with_reducible apply callK_pure <;> first | (simp only [eras, era, eras_map]; first | with_reducible exact h1 | simpa using h1) | (simp -implicitDefEqProofs)))
end Go.Proofs.Ythfnaaeddlnckaa
end

/- Walks of the groups: the accounts. -/
section
set_option linter.unusedSimpArgs false
set_option linter.unusedVariables false
set_option maxHeartbeats 1000000
set_option maxRecDepth 8000
namespace Go.Proofs.Ythfnaaeddlnckaa
open E

def role0 : Role := ⟨[], 0, 0, 0, false⟩
def roleOk (c : List Account) (r : Role) : Bool := match findS c r.code with
  | some a => a.kind == r.kind && a.basis == r.basis
  | none => false
def rolP (c : List Account) (L : List Role) (k : Nat) : Bool := roleOk c (L.getD k role0) && !decide ((L.getD k role0).code ∈ (L.take k).map Role.code)
def accB (g : Group) : Bool := validP g.chart true && !(g.chart.any fun a => !basedS a) && allB (rolP g.chart (rolesOf g.roles)) (rolesOf g.roles).length

theorem w_accounts (g : Group) (hc : g.chart.length ≤ 1000000) : Pure Try.prog 74 [g.v] (vB (accB g)) := by
  have v1 := w_cValid g.chart true hc
  have hr := w_roles g.roles
  have hca : ∀ S, OkS S → FnS Try.prog 84 [Account.l g.chart, .fn (.func 85) []] S (.t (.bool (g.chart.any fun a => !basedS a))) S :=
    fun S hS => w_ContainsA S hS g.chart _ [] rfl _ (fun x _ => Pure.call (vs := [x.v]) (by simpa using w_acc1 x) S)
  unfold accB
  have h15 := rolesOf_length g.roles
  generalize rolesOf g.roles = L at *
  cases hv1 : validP g.chart true
  · rw [hv1] at v1
    (refine Pure.of_code mix Try.call74 k_74 (by simp) (fun hB => ?_); (try simp at hB); (try simp -implicitDefEqProofs [c_group_accounts_74]))
    ((try simp at v1); (try simp -implicitDefEqProofs); repeat' first | (with_reducible refine gdK_em (fun hc => ?_) (fun hc => ?_) <;> (have hc' := hc; (try simp at hc'); simp -implicitDefEqProofs [hc, hc'])) | (with_reducible refine cdK_em (fun hc => ?_) (fun hc => ?_) <;> (have hc' := hc; (try simp at hc'); simp -implicitDefEqProofs [hc, hc'])) | (with_reducible refine pickK_em (fun hc => ?_) (fun hc => ?_) <;> (have hc' := hc; (try simp at hc'); simp -implicitDefEqProofs [hc, hc'])) | (with_reducible apply callK_pure <;> first | (simp only [eras, era, eras_map]; first | with_reducible exact v1 | simpa using v1) | (simp -implicitDefEqProofs)))
  rw [hv1] at v1
  generalize (g.chart.any fun a => !basedS a) = any at *
  cases any
  case true =>
    (refine Pure.of_code mix Try.call74 k_74 (by simp) (fun hB => ?_); (try simp at hB); (try simp -implicitDefEqProofs [c_group_accounts_74]))
    ((try simp at v1); (try simp -implicitDefEqProofs); repeat' first | (with_reducible refine gdK_em (fun hc => ?_) (fun hc => ?_) <;> (have hc' := hc; (try simp at hc'); simp -implicitDefEqProofs [hc, hc'])) | (with_reducible refine cdK_em (fun hc => ?_) (fun hc => ?_) <;> (have hc' := hc; (try simp at hc'); simp -implicitDefEqProofs [hc, hc'])) | (with_reducible refine pickK_em (fun hc => ?_) (fun hc => ?_) <;> (have hc' := hc; (try simp at hc'); simp -implicitDefEqProofs [hc, hc'])) | (with_reducible apply callK_pure <;> first | (simp only [eras, era, eras_map]; first | with_reducible exact v1 | simpa using v1) | (simp -implicitDefEqProofs)))
    refine callK_fn (hca _ (by simp [OkS])) (fun hd => by cases hd) ?_
    ((try simp -implicitDefEqProofs); repeat' first | (with_reducible refine gdK_em (fun hc => ?_) (fun hc => ?_) <;> (have hc' := hc; (try simp at hc'); simp -implicitDefEqProofs [hc, hc'])) | (with_reducible refine cdK_em (fun hc => ?_) (fun hc => ?_) <;> (have hc' := hc; (try simp at hc'); simp -implicitDefEqProofs [hc, hc'])) | (with_reducible refine pickK_em (fun hc => ?_) (fun hc => ?_) <;> (have hc' := hc; (try simp at hc'); simp -implicitDefEqProofs [hc, hc'])))
  (refine Pure.of_code mix Try.call74 k_74 (by simp) (fun hB => ?_); (try simp at hB); (try simp -implicitDefEqProofs [c_group_accounts_74]))
  ((try simp at v1); (try simp -implicitDefEqProofs); repeat' first | (with_reducible refine gdK_em (fun hc => ?_) (fun hc => ?_) <;> (have hc' := hc; (try simp at hc'); simp -implicitDefEqProofs [hc, hc'])) | (with_reducible refine cdK_em (fun hc => ?_) (fun hc => ?_) <;> (have hc' := hc; (try simp at hc'); simp -implicitDefEqProofs [hc, hc'])) | (with_reducible refine pickK_em (fun hc => ?_) (fun hc => ?_) <;> (have hc' := hc; (try simp at hc'); simp -implicitDefEqProofs [hc, hc'])) | (with_reducible apply callK_pure <;> first | (simp only [eras, era, eras_map]; first | with_reducible exact v1 | simpa using v1) | (simp -implicitDefEqProofs)))
  refine callK_fn (hca _ (by simp [OkS])) (fun hd => by cases hd) ?_
  ((try simp at hr); (try simp -implicitDefEqProofs); repeat' first | (with_reducible refine gdK_em (fun hc => ?_) (fun hc => ?_) <;> (have hc' := hc; (try simp at hc'); simp -implicitDefEqProofs [hc, hc'])) | (with_reducible refine cdK_em (fun hc => ?_) (fun hc => ?_) <;> (have hc' := hc; (try simp at hc'); simp -implicitDefEqProofs [hc, hc'])) | (with_reducible refine pickK_em (fun hc => ?_) (fun hc => ?_) <;> (have hc' := hc; (try simp at hc'); simp -implicitDefEqProofs [hc, hc'])) | (with_reducible apply callK_pure <;> first | (simp only [eras, era, eras_map]; first | with_reducible exact hr | simpa using hr) | (simp -implicitDefEqProofs)))
  refine loop_rule (X := Nat) (fun k => k ≤ L.length ∧ allB (rolP g.chart L) k = true) (fun k => [(1, .ptr 0 0), (3, .mp 1), (20, Role.l L), (21, vI L.length), (22, vI k)])
    (fun k => ⟨[.cells (g.c.map .t), .mp (mI boolV (setOf ((L.take k).map Role.code)))], []⟩) (fun k => L.length - k) 0 ⟨by simp, rfl⟩ (by simp) ?_
  rintro k ⟨hk, hn⟩ hbd
  rcases Nat.lt_or_ge k L.length with h | h
  · have hx : L[k]? = some L[k] := by simp [h]
    have hg : L.getD k role0 = L[k] := by simp [List.getD_eq_getElem?_getD, h]
    have hsucc := allB_succ (rolP g.chart L) k
    have hfl := allB_false (p := rolP g.chart L) h
    simp only [rolP, hn, hg, Bool.true_and] at hsucc hfl
    change allB (rolP g.chart L) (k + 1) = _ at hsucc
    change _ → allB (rolP g.chart L) L.length = false at hfl
    have e3 : IntKind.i64.wrap ((k : Int) + 1) = (k : Int) + 1 := wrap64 (by omega) (by omega)
    have hf := w_cFind g.chart L[k].code
    have htk : (L.take (k + 1)).map Role.code = (L.take k).map Role.code ++ [L[k].code] := by rw [take_next hx, List.map_append]; rfl
    have hln : ((L.take k).map Role.code).length = k := by simp; omega
    generalize hM : (L.take k).map Role.code = M at *
    have hfm := findM_I boolV L[k].code (setOf M)
    rw [aget_setOf] at hfm
    unfold roleOk at hsucc hfl
    cases ha : findS g.chart L[k].code with
    | none =>
      rw [ha] at hf hfl
      rw [hfl (by simp)]
      ((try simp at hf); (try simp -implicitDefEqProofs [h]); repeat' first | (with_reducible refine gdK_em (fun hc => ?_) (fun hc => ?_) <;> (have hc' := hc; (try simp at hc'); simp -implicitDefEqProofs [hc, hc', h])) | (with_reducible refine cdK_em (fun hc => ?_) (fun hc => ?_) <;> (have hc' := hc; (try simp at hc'); simp -implicitDefEqProofs [hc, hc', h])) | (with_reducible refine pickK_em (fun hc => ?_) (fun hc => ?_) <;> (have hc' := hc; (try simp at hc'); simp -implicitDefEqProofs [hc, hc', h])) | (with_reducible apply callK_pure <;> first | (simp only [eras, era, eras_map]; first | with_reducible exact hf | simpa using hf) | (simp -implicitDefEqProofs [h])))
    | some a =>
      rw [ha] at hf hfl hsucc
      by_cases hm : L[k].code ∈ M
      · rw [if_pos hm] at hfm
        rw [hfl (by simp [hm])]
        ((try simp at hf); (try simp -implicitDefEqProofs [h, hfm]); repeat' first | (with_reducible refine gdK_em (fun hc => ?_) (fun hc => ?_) <;> (have hc' := hc; (try simp at hc'); simp -implicitDefEqProofs [hc, hc', h, hfm])) | (with_reducible refine cdK_em (fun hc => ?_) (fun hc => ?_) <;> (have hc' := hc; (try simp at hc'); simp -implicitDefEqProofs [hc, hc', h, hfm])) | (with_reducible refine pickK_em (fun hc => ?_) (fun hc => ?_) <;> (have hc' := hc; (try simp at hc'); simp -implicitDefEqProofs [hc, hc', h, hfm])) | (with_reducible apply callK_pure <;> first | (simp only [eras, era, eras_map]; first | with_reducible exact hf | simpa using hf) | (simp -implicitDefEqProofs [h, hfm])))
      · have hsm := setM_I boolV L[k].code true (setOf M)
        rw [aset_setOf hm] at hsm
        rw [if_neg hm] at hfm
        simp only [hm, decide_false, Bool.not_false, Bool.and_true] at hsucc hfl
        by_cases k1 : a.kind = L[k].kind
        case neg =>
          have k1b : (a.kind != L[k].kind) = true := by simpa using k1
          rw [hfl (by simp [k1])]
          ((try simp at hf); (try simp -implicitDefEqProofs [h, hfm, k1b]); repeat' first | (with_reducible refine gdK_em (fun hc => ?_) (fun hc => ?_) <;> (have hc' := hc; (try simp at hc'); simp -implicitDefEqProofs [hc, hc', h, hfm, k1b])) | (with_reducible refine cdK_em (fun hc => ?_) (fun hc => ?_) <;> (have hc' := hc; (try simp at hc'); simp -implicitDefEqProofs [hc, hc', h, hfm, k1b])) | (with_reducible refine pickK_em (fun hc => ?_) (fun hc => ?_) <;> (have hc' := hc; (try simp at hc'); simp -implicitDefEqProofs [hc, hc', h, hfm, k1b])) | (with_reducible apply callK_pure <;> first | (simp only [eras, era, eras_map]; first | with_reducible exact hf | simpa using hf) | (simp -implicitDefEqProofs [h, hfm, k1b])))
        have k1b : (a.kind != L[k].kind) = false := by simpa using k1
        by_cases k2 : a.basis = L[k].basis
        case neg =>
          have k2b : (a.basis != L[k].basis) = true := by simpa using k2
          rw [hfl (by simp [k2])]
          ((try simp at hf); (try simp -implicitDefEqProofs [h, hfm, k1b, k2b]); repeat' first | (with_reducible refine gdK_em (fun hc => ?_) (fun hc => ?_) <;> (have hc' := hc; (try simp at hc'); simp -implicitDefEqProofs [hc, hc', h, hfm, k1b, k2b])) | (with_reducible refine cdK_em (fun hc => ?_) (fun hc => ?_) <;> (have hc' := hc; (try simp at hc'); simp -implicitDefEqProofs [hc, hc', h, hfm, k1b, k2b])) | (with_reducible refine pickK_em (fun hc => ?_) (fun hc => ?_) <;> (have hc' := hc; (try simp at hc'); simp -implicitDefEqProofs [hc, hc', h, hfm, k1b, k2b])) | (with_reducible apply callK_pure <;> first | (simp only [eras, era, eras_map]; first | with_reducible exact hf | simpa using hf) | (simp -implicitDefEqProofs [h, hfm, k1b, k2b])))
        have k2b : (a.basis != L[k].basis) = false := by simpa using k2
        simp [k1, k2] at hsucc
        ((try simp at hf); (try simp -implicitDefEqProofs [h, hfm, hsm, e3, k1b, k2b]); repeat' first | (with_reducible refine gdK_em (fun hc => ?_) (fun hc => ?_) <;> (have hc' := hc; (try simp at hc'); simp -implicitDefEqProofs [hc, hc', h, hfm, hsm, e3, k1b, k2b])) | (with_reducible refine cdK_em (fun hc => ?_) (fun hc => ?_) <;> (have hc' := hc; (try simp at hc'); simp -implicitDefEqProofs [hc, hc', h, hfm, hsm, e3, k1b, k2b])) | (with_reducible refine pickK_em (fun hc => ?_) (fun hc => ?_) <;> (have hc' := hc; (try simp at hc'); simp -implicitDefEqProofs [hc, hc', h, hfm, hsm, e3, k1b, k2b])) | (with_reducible apply callK_pure <;> first | (simp only [eras, era, eras_map]; first | with_reducible exact hf | simpa using hf) | (simp -implicitDefEqProofs [h, hfm, hsm, e3, k1b, k2b])))
        exact ⟨by simp [maxLen]; omega, k + 1, ⟨by omega, hsucc⟩, by omega, ⟨by rw [← List.map_take, htk], okNs_all (fun v hv => by obtain ⟨p, _, rfl⟩ := List.mem_map.1 hv; rfl), okNs_all (fun v hv => by obtain ⟨p, _, rfl⟩ := List.mem_map.1 hv; rfl)⟩, by omega⟩
  · have : k = L.length := by omega
    subst this
    rw [hn]
    ((try simp -implicitDefEqProofs); repeat' first | (with_reducible refine gdK_em (fun hc => ?_) (fun hc => ?_) <;> (have hc' := hc; (try simp at hc'); simp -implicitDefEqProofs [hc, hc'])) | (with_reducible refine cdK_em (fun hc => ?_) (fun hc => ?_) <;> (have hc' := hc; (try simp at hc'); simp -implicitDefEqProofs [hc, hc'])) | (with_reducible refine pickK_em (fun hc => ?_) (fun hc => ?_) <;> (have hc' := hc; (try simp at hc'); simp -implicitDefEqProofs [hc, hc'])))

/-- The reference's words for the books of a group. -/
def booksR (g : Group) : Bool := curB g.cur && calV g.cal && validR g.chart true && !(g.chart.any fun a => !basedS a) && allB (rolP g.chart (rolesOf g.roles)) (rolesOf g.roles).length

theorem w_rAccount (g : Group) (code : Int) : Pure Try.prog 26 [g.v, vI code] (.tup [((findS g.chart code).getD acc0).v, vB (findS g.chart code).isSome]) := by
  have hf := w_rcFind g.chart code
  (refine Pure.of_code mix Try.call26 k_26 (by simp) (fun hB => ?_); (try simp at hB); (try simp -implicitDefEqProofs [c_tallystoneref10_Account_26]))
  ((try simp at hf); (try simp -implicitDefEqProofs); repeat' first | (with_reducible refine gdK_em (fun hc => ?_) (fun hc => ?_) <;> (have hc' := hc; (try simp at hc'); simp -implicitDefEqProofs [hc, hc'])) | (with_reducible refine cdK_em (fun hc => ?_) (fun hc => ?_) <;> (have hc' := hc; (try simp at hc'); simp -implicitDefEqProofs [hc, hc'])) | (with_reducible refine pickK_em (fun hc => ?_) (fun hc => ?_) <;> (have hc' := hc; (try simp at hc'); simp -implicitDefEqProofs [hc, hc'])) | (with_reducible apply callK_pure <;> first | (simp only [eras, era, eras_map]; first | with_reducible exact hf | simpa using hf) | (simp -implicitDefEqProofs)))

def basedAt (l : List Account) (k : Nat) : Bool := basedS (l.getD k acc0)
theorem any_based (l : List Account) : (!(l.any fun a => !basedS a)) = allB (basedAt l) l.length := by
  rw [Bool.eq_iff_iff, allB_iff]
  simp [basedAt]
  constructor
  · intro h k hk
    rw [show l[k]?.getD acc0 = l[k] by simp [hk]]
    exact h _ (List.getElem_mem hk)
  · intro h x hx
    obtain ⟨k, hk, rfl⟩ := List.getElem_of_mem hx
    have := h k hk
    rwa [show l[k]?.getD acc0 = l[k] by simp [hk]] at this

theorem w_books (g : Group) (hc : g.chart.length ≤ 1000000) (hs : g.cur.length ≤ 9223372036854775807) : Pure Try.prog 42 [g.v] (vB (booksR g)) := by
  have v1 := w_rcValid g.chart true hc
  have vc := w_rcur g.cur hs
  have vk := w_r7V g.cal
  have hr := w_rroles g.roles
  unfold booksR
  rw [any_based]
  have h15 := rolesOf_length g.roles
  generalize rolesOf g.roles = L at *
  cases hvc : curB g.cur
  · rw [hvc] at vc
    (refine Pure.of_code mix Try.call42 k_42 (by simp) (fun hB => ?_); (try simp at hB); (try simp -implicitDefEqProofs [c_tallystoneref10_books_42]))
    ((try simp at vc); (try simp -implicitDefEqProofs); repeat' first | (with_reducible refine gdK_em (fun hc => ?_) (fun hc => ?_) <;> (have hc' := hc; (try simp at hc'); simp -implicitDefEqProofs [hc, hc'])) | (with_reducible refine cdK_em (fun hc => ?_) (fun hc => ?_) <;> (have hc' := hc; (try simp at hc'); simp -implicitDefEqProofs [hc, hc'])) | (with_reducible refine pickK_em (fun hc => ?_) (fun hc => ?_) <;> (have hc' := hc; (try simp at hc'); simp -implicitDefEqProofs [hc, hc'])) | (with_reducible apply callK_pure <;> first | (simp only [eras, era, eras_map]; first | with_reducible exact vc | simpa using vc) | (simp -implicitDefEqProofs)))
  rw [hvc] at vc
  cases hvk : calV g.cal
  · rw [hvk] at vk
    (refine Pure.of_code mix Try.call42 k_42 (by simp) (fun hB => ?_); (try simp at hB); (try simp -implicitDefEqProofs [c_tallystoneref10_books_42]))
    ((try simp at vc); (try simp at vk); (try simp -implicitDefEqProofs); repeat' first | (with_reducible refine gdK_em (fun hc => ?_) (fun hc => ?_) <;> (have hc' := hc; (try simp at hc'); simp -implicitDefEqProofs [hc, hc'])) | (with_reducible refine cdK_em (fun hc => ?_) (fun hc => ?_) <;> (have hc' := hc; (try simp at hc'); simp -implicitDefEqProofs [hc, hc'])) | (with_reducible refine pickK_em (fun hc => ?_) (fun hc => ?_) <;> (have hc' := hc; (try simp at hc'); simp -implicitDefEqProofs [hc, hc'])) | (with_reducible apply callK_pure <;> first | (simp only [eras, era, eras_map]; first | with_reducible exact vc | simpa using vc) | (simp -implicitDefEqProofs)) | (with_reducible apply callK_pure <;> first | (simp only [eras, era, eras_map]; first | with_reducible exact vk | simpa using vk) | (simp -implicitDefEqProofs)))
  rw [hvk] at vk
  cases hv1 : validR g.chart true
  · rw [hv1] at v1
    (refine Pure.of_code mix Try.call42 k_42 (by simp) (fun hB => ?_); (try simp at hB); (try simp -implicitDefEqProofs [c_tallystoneref10_books_42]))
    ((try simp at vc); (try simp at vk); (try simp at v1); (try simp -implicitDefEqProofs); repeat' first | (with_reducible refine gdK_em (fun hc => ?_) (fun hc => ?_) <;> (have hc' := hc; (try simp at hc'); simp -implicitDefEqProofs [hc, hc'])) | (with_reducible refine cdK_em (fun hc => ?_) (fun hc => ?_) <;> (have hc' := hc; (try simp at hc'); simp -implicitDefEqProofs [hc, hc'])) | (with_reducible refine pickK_em (fun hc => ?_) (fun hc => ?_) <;> (have hc' := hc; (try simp at hc'); simp -implicitDefEqProofs [hc, hc'])) | (with_reducible apply callK_pure <;> first | (simp only [eras, era, eras_map]; first | with_reducible exact vc | simpa using vc) | (simp -implicitDefEqProofs)) | (with_reducible apply callK_pure <;> first | (simp only [eras, era, eras_map]; first | with_reducible exact vk | simpa using vk) | (simp -implicitDefEqProofs)) | (with_reducible apply callK_pure <;> first | (simp only [eras, era, eras_map]; first | with_reducible exact v1 | simpa using v1) | (simp -implicitDefEqProofs)))
  rw [hv1] at v1
  (refine Pure.of_code mix Try.call42 k_42 (by simp) (fun hB => ?_); (try simp at hB); (try simp -implicitDefEqProofs [c_tallystoneref10_books_42]))
  ((try simp at vc); (try simp at vk); (try simp at v1); (try simp -implicitDefEqProofs); repeat' first | (with_reducible refine gdK_em (fun hc => ?_) (fun hc => ?_) <;> (have hc' := hc; (try simp at hc'); simp -implicitDefEqProofs [hc, hc'])) | (with_reducible refine cdK_em (fun hc => ?_) (fun hc => ?_) <;> (have hc' := hc; (try simp at hc'); simp -implicitDefEqProofs [hc, hc'])) | (with_reducible refine pickK_em (fun hc => ?_) (fun hc => ?_) <;> (have hc' := hc; (try simp at hc'); simp -implicitDefEqProofs [hc, hc'])) | (with_reducible apply callK_pure <;> first | (simp only [eras, era, eras_map]; first | with_reducible exact vc | simpa using vc) | (simp -implicitDefEqProofs)) | (with_reducible apply callK_pure <;> first | (simp only [eras, era, eras_map]; first | with_reducible exact vk | simpa using vk) | (simp -implicitDefEqProofs)) | (with_reducible apply callK_pure <;> first | (simp only [eras, era, eras_map]; first | with_reducible exact v1 | simpa using v1) | (simp -implicitDefEqProofs)))
  refine loop_rule (X := Nat) (fun k => k ≤ g.chart.length ∧ allB (basedAt g.chart) k = true) (fun k => [(1, .ptr 0 0), (3, vI k)])
    (fun k => ⟨[.cells (g.c.map .t)], []⟩) (fun k => g.chart.length - k) 0 ⟨by simp, rfl⟩ (by simp) ?_
  rintro k ⟨hk, hn⟩ hbd
  rcases Nat.lt_or_ge k g.chart.length with h | h
  · have hx : g.chart[k]? = some g.chart[k] := by simp [h]
    have hg : basedAt g.chart k = basedS g.chart[k] := by simp [basedAt, h]
    have hsucc := allB_succ (basedAt g.chart) k
    have hfl := allB_false (p := basedAt g.chart) h
    rw [hn, hg] at hsucc
    rw [hg] at hfl
    have e3 : IntKind.i64.wrap ((k : Int) + 1) = (k : Int) + 1 := wrap64 (by omega) (by omega)
    have hb := w_rbasis g.chart[k]
    cases hbs : basedS g.chart[k]
    · rw [hbs] at hb
      rw [hfl hbs]
      ((try simp at hb); (try simp -implicitDefEqProofs [h, e3]); repeat' first | (with_reducible refine gdK_em (fun hc => ?_) (fun hc => ?_) <;> (have hc' := hc; (try simp at hc'); simp -implicitDefEqProofs [hc, hc', h, e3])) | (with_reducible refine cdK_em (fun hc => ?_) (fun hc => ?_) <;> (have hc' := hc; (try simp at hc'); simp -implicitDefEqProofs [hc, hc', h, e3])) | (with_reducible refine pickK_em (fun hc => ?_) (fun hc => ?_) <;> (have hc' := hc; (try simp at hc'); simp -implicitDefEqProofs [hc, hc', h, e3])) | (with_reducible apply callK_pure <;> first | (simp only [eras, era, eras_map]; first | with_reducible exact hb | simpa using hb) | (simp -implicitDefEqProofs [h, e3])))
    · rw [hbs] at hb hsucc
      ((try simp at hb); (try simp -implicitDefEqProofs [h, e3]); repeat' first | (with_reducible refine gdK_em (fun hc => ?_) (fun hc => ?_) <;> (have hc' := hc; (try simp at hc'); simp -implicitDefEqProofs [hc, hc', h, e3])) | (with_reducible refine cdK_em (fun hc => ?_) (fun hc => ?_) <;> (have hc' := hc; (try simp at hc'); simp -implicitDefEqProofs [hc, hc', h, e3])) | (with_reducible refine pickK_em (fun hc => ?_) (fun hc => ?_) <;> (have hc' := hc; (try simp at hc'); simp -implicitDefEqProofs [hc, hc', h, e3])) | (with_reducible apply callK_pure <;> first | (simp only [eras, era, eras_map]; first | with_reducible exact hb | simpa using hb) | (simp -implicitDefEqProofs [h, e3])))
      exact ⟨k + 1, ⟨by omega, hsucc⟩, by omega, by omega⟩
  have : k = g.chart.length := by omega
  subst this
  rw [hn]
  ((try simp at hr); (try simp -implicitDefEqProofs); repeat' first | (with_reducible refine gdK_em (fun hc => ?_) (fun hc => ?_) <;> (have hc' := hc; (try simp at hc'); simp -implicitDefEqProofs [hc, hc'])) | (with_reducible refine cdK_em (fun hc => ?_) (fun hc => ?_) <;> (have hc' := hc; (try simp at hc'); simp -implicitDefEqProofs [hc, hc'])) | (with_reducible refine pickK_em (fun hc => ?_) (fun hc => ?_) <;> (have hc' := hc; (try simp at hc'); simp -implicitDefEqProofs [hc, hc'])) | (with_reducible apply callK_pure <;> first | (simp only [eras, era, eras_map]; first | with_reducible exact hr | simpa using hr) | (simp -implicitDefEqProofs)))
  refine loop_rule (X := Nat) (fun k => k ≤ L.length ∧ allB (rolP g.chart L) k = true) (fun k => [(1, .ptr 0 0), (4, Role.l L), (5, vI k)])
    (fun k => ⟨[.cells (g.c.map .t)], []⟩) (fun k => L.length - k) 0 ⟨by simp, rfl⟩ (by simp) ?_
  rintro k ⟨hk, hn⟩ hbd
  rcases Nat.lt_or_ge k L.length with h | h
  · have hx : L[k]? = some L[k] := by simp [h]
    have hg : L.getD k role0 = L[k] := by simp [List.getD_eq_getElem?_getD, h]
    have hsucc := allB_succ (rolP g.chart L) k
    have hfl := allB_false (p := rolP g.chart L) h
    simp only [rolP, hn, hg, Bool.true_and] at hsucc hfl
    change allB (rolP g.chart L) (k + 1) = _ at hsucc
    change _ → allB (rolP g.chart L) L.length = false at hfl
    have e3 : IntKind.i64.wrap ((k : Int) + 1) = (k : Int) + 1 := wrap64 (by omega) (by omega)
    have hf := w_rAccount g L[k].code
    unfold roleOk at hsucc hfl
    cases ha : findS g.chart L[k].code with
    | none =>
      rw [ha] at hf hfl
      rw [hfl (by simp)]
      ((try simp at hf); (try simp -implicitDefEqProofs [h]); repeat' first | (with_reducible refine gdK_em (fun hc => ?_) (fun hc => ?_) <;> (have hc' := hc; (try simp at hc'); simp -implicitDefEqProofs [hc, hc', h])) | (with_reducible refine cdK_em (fun hc => ?_) (fun hc => ?_) <;> (have hc' := hc; (try simp at hc'); simp -implicitDefEqProofs [hc, hc', h])) | (with_reducible refine pickK_em (fun hc => ?_) (fun hc => ?_) <;> (have hc' := hc; (try simp at hc'); simp -implicitDefEqProofs [hc, hc', h])) | (with_reducible apply callK_pure <;> first | (simp only [eras, era, eras_map]; first | with_reducible exact hf | simpa using hf) | (simp -implicitDefEqProofs [h])))
    | some a =>
      rw [ha] at hf hfl hsucc
      by_cases k1 : a.kind = L[k].kind
      case neg =>
        have k1b : (a.kind != L[k].kind) = true := by simpa using k1
        rw [hfl (by simp [k1])]
        ((try simp at hf); (try simp -implicitDefEqProofs [h, k1b]); repeat' first | (with_reducible refine gdK_em (fun hc => ?_) (fun hc => ?_) <;> (have hc' := hc; (try simp at hc'); simp -implicitDefEqProofs [hc, hc', h, k1b])) | (with_reducible refine cdK_em (fun hc => ?_) (fun hc => ?_) <;> (have hc' := hc; (try simp at hc'); simp -implicitDefEqProofs [hc, hc', h, k1b])) | (with_reducible refine pickK_em (fun hc => ?_) (fun hc => ?_) <;> (have hc' := hc; (try simp at hc'); simp -implicitDefEqProofs [hc, hc', h, k1b])) | (with_reducible apply callK_pure <;> first | (simp only [eras, era, eras_map]; first | with_reducible exact hf | simpa using hf) | (simp -implicitDefEqProofs [h, k1b])))
      have k1b : (a.kind != L[k].kind) = false := by simpa using k1
      by_cases k2 : a.basis = L[k].basis
      case neg =>
        have k2b : (a.basis != L[k].basis) = true := by simpa using k2
        rw [hfl (by simp [k2])]
        ((try simp at hf); (try simp -implicitDefEqProofs [h, k1b, k2b]); repeat' first | (with_reducible refine gdK_em (fun hc => ?_) (fun hc => ?_) <;> (have hc' := hc; (try simp at hc'); simp -implicitDefEqProofs [hc, hc', h, k1b, k2b])) | (with_reducible refine cdK_em (fun hc => ?_) (fun hc => ?_) <;> (have hc' := hc; (try simp at hc'); simp -implicitDefEqProofs [hc, hc', h, k1b, k2b])) | (with_reducible refine pickK_em (fun hc => ?_) (fun hc => ?_) <;> (have hc' := hc; (try simp at hc'); simp -implicitDefEqProofs [hc, hc', h, k1b, k2b])) | (with_reducible apply callK_pure <;> first | (simp only [eras, era, eras_map]; first | with_reducible exact hf | simpa using hf) | (simp -implicitDefEqProofs [h, k1b, k2b])))
      have k2b : (a.basis != L[k].basis) = false := by simpa using k2
      simp only [k1, k2, beq_self_eq_true, Bool.and_self, Bool.true_and] at hsucc hfl
      ((try simp at hf); (try simp -implicitDefEqProofs [h, k1b, k2b]); repeat' first | (with_reducible refine gdK_em (fun hc => ?_) (fun hc => ?_) <;> (have hc' := hc; (try simp at hc'); simp -implicitDefEqProofs [hc, hc', h, k1b, k2b])) | (with_reducible refine cdK_em (fun hc => ?_) (fun hc => ?_) <;> (have hc' := hc; (try simp at hc'); simp -implicitDefEqProofs [hc, hc', h, k1b, k2b])) | (with_reducible refine pickK_em (fun hc => ?_) (fun hc => ?_) <;> (have hc' := hc; (try simp at hc'); simp -implicitDefEqProofs [hc, hc', h, k1b, k2b])) | (with_reducible apply callK_pure <;> first | (simp only [eras, era, eras_map]; first | with_reducible exact hf | simpa using hf) | (simp -implicitDefEqProofs [h, k1b, k2b])))
      refine loop_rule (X := Nat) (fun j => j ≤ k ∧ L[k].code ∉ (L.take j).map Role.code) (fun j => [(1, .ptr 0 0), (4, Role.l L), (5, vI k), (8, vI j)])
        (fun _ => ⟨[.cells (g.c.map .t)], []⟩) (fun j => k - j) 0 ⟨by omega, by simp⟩ (by simp) ?_
      rintro j ⟨hj, hjn⟩ hbd2
      by_cases hjk : j < k
      · have hjl : j < L.length := by omega
        have hjx : L[j]? = some L[j] := by simp [hjl]
        have hnx : (L.take (j + 1)).map Role.code = (L.take j).map Role.code ++ [L[j].code] := by rw [take_next hjx, List.map_append]; rfl
        have e5 : IntKind.i64.wrap ((j : Int) + 1) = (j : Int) + 1 := wrap64 (by omega) (by omega)
        by_cases hc : L[j].code = L[k].code
        · have hcb : (L[j].code == L[k].code) = true := by simpa using hc
          have hit : L[k].code ∈ (L.take k).map Role.code := by
            rw [← hc]
            exact List.mem_map.2 ⟨L[j], List.mem_iff_getElem?.2 ⟨j, by rw [List.getElem?_take, if_pos hjk, hjx]⟩, rfl⟩
          rw [hfl (by simp only [hit, decide_true, Bool.not_true])]
          ((try simp -implicitDefEqProofs [hjk, hjl, e5, h, hcb]); repeat' first | (with_reducible refine gdK_em (fun hc => ?_) (fun hc => ?_) <;> (have hc' := hc; (try simp at hc'); simp -implicitDefEqProofs [hc, hc', hjk, hjl, e5, h, hcb])) | (with_reducible refine cdK_em (fun hc => ?_) (fun hc => ?_) <;> (have hc' := hc; (try simp at hc'); simp -implicitDefEqProofs [hc, hc', hjk, hjl, e5, h, hcb])) | (with_reducible refine pickK_em (fun hc => ?_) (fun hc => ?_) <;> (have hc' := hc; (try simp at hc'); simp -implicitDefEqProofs [hc, hc', hjk, hjl, e5, h, hcb])))
        · have hcb : (L[j].code == L[k].code) = false := by simpa using hc
          have step : L[k].code ∉ (L.take (j + 1)).map Role.code := fun hm => by
            rw [hnx] at hm
            rcases List.mem_append.1 hm with h | h
            · exact hjn h
            · simp at h; exact hc h.symm
          ((try simp -implicitDefEqProofs [hjk, hjl, e5, h, hcb]); repeat' first | (with_reducible refine gdK_em (fun hc => ?_) (fun hc => ?_) <;> (have hc' := hc; (try simp at hc'); simp -implicitDefEqProofs [hc, hc', hjk, hjl, e5, h, hcb])) | (with_reducible refine cdK_em (fun hc => ?_) (fun hc => ?_) <;> (have hc' := hc; (try simp at hc'); simp -implicitDefEqProofs [hc, hc', hjk, hjl, e5, h, hcb])) | (with_reducible refine pickK_em (fun hc => ?_) (fun hc => ?_) <;> (have hc' := hc; (try simp at hc'); simp -implicitDefEqProofs [hc, hc', hjk, hjl, e5, h, hcb])))
          exact ⟨j + 1, ⟨by omega, by rw [← List.map_take]; exact step⟩, by omega, by omega⟩
      · have hjk2 : j = k := by omega
        subst hjk2
        simp only [hjn, decide_false, Bool.not_false] at hsucc
        ((try simp -implicitDefEqProofs [hjk, h, e3]); repeat' first | (with_reducible refine gdK_em (fun hc => ?_) (fun hc => ?_) <;> (have hc' := hc; (try simp at hc'); simp -implicitDefEqProofs [hc, hc', hjk, h, e3])) | (with_reducible refine cdK_em (fun hc => ?_) (fun hc => ?_) <;> (have hc' := hc; (try simp at hc'); simp -implicitDefEqProofs [hc, hc', hjk, h, e3])) | (with_reducible refine pickK_em (fun hc => ?_) (fun hc => ?_) <;> (have hc' := hc; (try simp at hc'); simp -implicitDefEqProofs [hc, hc', hjk, h, e3])))
        exact ⟨j + 1, ⟨by omega, hsucc⟩, by omega, by omega⟩
  · have : k = L.length := by omega
    subst this
    rw [hn]
    ((try simp -implicitDefEqProofs); repeat' first | (with_reducible refine gdK_em (fun hc => ?_) (fun hc => ?_) <;> (have hc' := hc; (try simp at hc'); simp -implicitDefEqProofs [hc, hc'])) | (with_reducible refine cdK_em (fun hc => ?_) (fun hc => ?_) <;> (have hc' := hc; (try simp at hc'); simp -implicitDefEqProofs [hc, hc'])) | (with_reducible refine pickK_em (fun hc => ?_) (fun hc => ?_) <;> (have hc' := hc; (try simp at hc'); simp -implicitDefEqProofs [hc, hc'])))
end Go.Proofs.Ythfnaaeddlnckaa
end

/- Walks of the groups: the entities. -/
section
set_option linter.unusedSimpArgs false
set_option linter.unusedVariables false
set_option maxHeartbeats 1000000
set_option maxRecDepth 8000
namespace Go.Proofs.Ythfnaaeddlnckaa
open E

def closedM (L : List Role) : List (Int × Bool) := L.foldl (fun m r => aset m r.code (!r.mapped)) []
theorem closedM_snoc (L : List Role) (r : Role) : closedM (L ++ [r]) = aset (closedM L) r.code (!r.mapped) := by simp [closedM]
theorem closedM_length (L : List Role) : (closedM L).length ≤ L.length := by
  suffices h : ∀ m : List (Int × Bool), (L.foldl (fun m r => aset m r.code (!r.mapped)) m).length ≤ m.length + L.length by simpa [closedM] using h []
  induction L with
  | nil => intro m; simp
  | cons r L ih => intro m; have := ih (aset m r.code (!r.mapped)); have := aset_length m r.code (!r.mapped); simp only [List.foldl_cons, List.length_cons]; omega
def closedAt (L : List Role) (c : Int) : Bool := (aget (closedM L) c).getD false
def entP (g : Group) (x : Ent) : Bool := nameB x.name && curB x.cur && mapB x g.chart && !(x.links.any fun l => closedAt (rolesOf g.roles) l.to)

theorem w_ent1 (c0 c1 : List V) (h0 : okNs 4 0 c0 = true) (h1 : okNs 4 0 c1 = true) (M : List (Int × Bool)) (l : Link) :
    FnS Try.prog 92 [l.v, .ptr 3 0] ⟨[.cells c0, .cells c1, .mp (mI boolV M), .cells [.mp 2]], []⟩ (.t (.bool ((aget M l.to).getD false))) ⟨[.cells c0, .cells c1, .mp (mI boolV M), .cells [.mp 2]], []⟩ := by
  have hfm := findM_I boolV l.to M
  cases h : aget M l.to <;> rw [h] at hfm
  all_goals
    (refine FnS.of_code mix Try.call92 k_92 (by simp) (fun hB => ?_); (try simp at hB); (try simp -implicitDefEqProofs [c_group_entityS1_92, Link.c]))
    ((try simp -implicitDefEqProofs [hfm]); repeat' first | (with_reducible refine gdK_em (fun hc => ?_) (fun hc => ?_) <;> (have hc' := hc; (try simp at hc'); simp -implicitDefEqProofs [hc, hc', hfm])) | (with_reducible refine cdK_em (fun hc => ?_) (fun hc => ?_) <;> (have hc' := hc; (try simp at hc'); simp -implicitDefEqProofs [hc, hc', hfm])) | (with_reducible refine pickK_em (fun hc => ?_) (fun hc => ?_) <;> (have hc' := hc; (try simp at hc'); simp -implicitDefEqProofs [hc, hc', hfm])))
    exact ⟨h0, h1, okNs_all (fun v hv => by obtain ⟨p, _, rfl⟩ := List.mem_map.1 hv; rfl), okNs_all (fun v hv => by obtain ⟨p, _, rfl⟩ := List.mem_map.1 hv; rfl)⟩

theorem w_gEntity (g : Group) (x : Ent) (hg : g.chart.length ≤ 1000000) (hn : x.name.length ≤ 9223372036854775807) (hc : x.cur.length ≤ 9223372036854775807) (hx : x.chart.length ≤ 1000000) :
    Pure Try.prog 75 [g.v, x.v] (vB (entP g x)) := by
  have vn := w_name x.name hn
  have vc := w_cur x.cur hc
  have vm := w_mValid x g.chart hg hx
  have hr := w_roles g.roles
  unfold entP closedAt
  have h15 := rolesOf_length g.roles
  have hml := closedM_length (rolesOf g.roles)
  generalize rolesOf g.roles = L at *
  cases hvn : nameB x.name
  · rw [hvn] at vn
    (refine Pure.of_code mix Try.call75 k_75 (by simp) (fun hB => ?_); (try simp at hB); (try simp -implicitDefEqProofs [c_group_entity_75]))
    ((try simp at vn); (try simp -implicitDefEqProofs); repeat' first | (with_reducible refine gdK_em (fun hc => ?_) (fun hc => ?_) <;> (have hc' := hc; (try simp at hc'); simp -implicitDefEqProofs [hc, hc'])) | (with_reducible refine cdK_em (fun hc => ?_) (fun hc => ?_) <;> (have hc' := hc; (try simp at hc'); simp -implicitDefEqProofs [hc, hc'])) | (with_reducible refine pickK_em (fun hc => ?_) (fun hc => ?_) <;> (have hc' := hc; (try simp at hc'); simp -implicitDefEqProofs [hc, hc'])) | (with_reducible apply callK_pure <;> first | (simp only [eras, era, eras_map]; first | with_reducible exact vn | simpa using vn) | (simp -implicitDefEqProofs)))
  rw [hvn] at vn
  cases hvc : curB x.cur
  · rw [hvc] at vc
    (refine Pure.of_code mix Try.call75 k_75 (by simp) (fun hB => ?_); (try simp at hB); (try simp -implicitDefEqProofs [c_group_entity_75]))
    ((try simp at vn); (try simp at vc); (try simp -implicitDefEqProofs); repeat' first | (with_reducible refine gdK_em (fun hc => ?_) (fun hc => ?_) <;> (have hc' := hc; (try simp at hc'); simp -implicitDefEqProofs [hc, hc'])) | (with_reducible refine cdK_em (fun hc => ?_) (fun hc => ?_) <;> (have hc' := hc; (try simp at hc'); simp -implicitDefEqProofs [hc, hc'])) | (with_reducible refine pickK_em (fun hc => ?_) (fun hc => ?_) <;> (have hc' := hc; (try simp at hc'); simp -implicitDefEqProofs [hc, hc'])) | (with_reducible apply callK_pure <;> first | (simp only [eras, era, eras_map]; first | with_reducible exact vn | simpa using vn) | (simp -implicitDefEqProofs)) | (with_reducible apply callK_pure <;> first | (simp only [eras, era, eras_map]; first | with_reducible exact vc | simpa using vc) | (simp -implicitDefEqProofs)))
  rw [hvc] at vc
  cases hvm : mapB x g.chart
  · rw [hvm] at vm
    (refine Pure.of_code mix Try.call75 k_75 (by simp) (fun hB => ?_); (try simp at hB); (try simp -implicitDefEqProofs [c_group_entity_75]))
    ((try simp at vn); (try simp at vc); (try simp at vm); (try simp -implicitDefEqProofs); repeat' first | (with_reducible refine gdK_em (fun hc => ?_) (fun hc => ?_) <;> (have hc' := hc; (try simp at hc'); simp -implicitDefEqProofs [hc, hc'])) | (with_reducible refine cdK_em (fun hc => ?_) (fun hc => ?_) <;> (have hc' := hc; (try simp at hc'); simp -implicitDefEqProofs [hc, hc'])) | (with_reducible refine pickK_em (fun hc => ?_) (fun hc => ?_) <;> (have hc' := hc; (try simp at hc'); simp -implicitDefEqProofs [hc, hc'])) | (with_reducible apply callK_pure <;> first | (simp only [eras, era, eras_map]; first | with_reducible exact vn | simpa using vn) | (simp -implicitDefEqProofs)) | (with_reducible apply callK_pure <;> first | (simp only [eras, era, eras_map]; first | with_reducible exact vc | simpa using vc) | (simp -implicitDefEqProofs)) | (with_reducible apply callK_pure <;> first | (simp only [eras, era, eras_map]; first | with_reducible exact vm | simpa using vm) | (simp -implicitDefEqProofs)))
  rw [hvm] at vm
  (refine Pure.of_code mix Try.call75 k_75 (by simp) (fun hB => ?_); (try simp at hB); (try simp -implicitDefEqProofs [c_group_entity_75]))
  ((try simp at vn); (try simp at vc); (try simp at vm); (try simp at hr); (try simp -implicitDefEqProofs); repeat' first | (with_reducible refine gdK_em (fun hc => ?_) (fun hc => ?_) <;> (have hc' := hc; (try simp at hc'); simp -implicitDefEqProofs [hc, hc'])) | (with_reducible refine cdK_em (fun hc => ?_) (fun hc => ?_) <;> (have hc' := hc; (try simp at hc'); simp -implicitDefEqProofs [hc, hc'])) | (with_reducible refine pickK_em (fun hc => ?_) (fun hc => ?_) <;> (have hc' := hc; (try simp at hc'); simp -implicitDefEqProofs [hc, hc'])) | (with_reducible apply callK_pure <;> first | (simp only [eras, era, eras_map]; first | with_reducible exact vn | simpa using vn) | (simp -implicitDefEqProofs)) | (with_reducible apply callK_pure <;> first | (simp only [eras, era, eras_map]; first | with_reducible exact vc | simpa using vc) | (simp -implicitDefEqProofs)) | (with_reducible apply callK_pure <;> first | (simp only [eras, era, eras_map]; first | with_reducible exact vm | simpa using vm) | (simp -implicitDefEqProofs)) | (with_reducible apply callK_pure <;> first | (simp only [eras, era, eras_map]; first | with_reducible exact hr | simpa using hr) | (simp -implicitDefEqProofs)))
  refine loop_rule (X := Nat) (fun k => k ≤ L.length) (fun k => [(3, .ptr 1 0), (5, .ptr 3 0), (28, Role.l L), (29, vI L.length), (30, vI k)])
    (fun k => ⟨[.cells (g.c.map .t), .cells (x.c.map .t), .mp (mI boolV (closedM (L.take k))), .cells [.mp 2]], []⟩) (fun k => L.length - k) 0 (by simp) (by simp [closedM]) ?_
  rintro k hk hbd
  rcases Nat.lt_or_ge k L.length with h | h
  · have hx : L[k]? = some L[k] := by simp [h]
    have e3 : IntKind.i64.wrap ((k : Int) + 1) = (k : Int) + 1 := wrap64 (by omega) (by omega)
    have htk : closedM (L.take (k + 1)) = aset (closedM (L.take k)) L[k].code (!L[k].mapped) := by rw [take_next hx, closedM_snoc]
    have hsm := setM_I boolV L[k].code (!L[k].mapped) (closedM (L.take k))
    rw [← htk] at hsm
    have hln := closedM_length (L.take (k + 1))
    rw [List.length_take] at hln
    ((try simp -implicitDefEqProofs [h, hsm, e3]); repeat' first | (with_reducible refine gdK_em (fun hc => ?_) (fun hc => ?_) <;> (have hc' := hc; (try simp at hc'); simp -implicitDefEqProofs [hc, hc', h, hsm, e3])) | (with_reducible refine cdK_em (fun hc => ?_) (fun hc => ?_) <;> (have hc' := hc; (try simp at hc'); simp -implicitDefEqProofs [hc, hc', h, hsm, e3])) | (with_reducible refine pickK_em (fun hc => ?_) (fun hc => ?_) <;> (have hc' := hc; (try simp at hc'); simp -implicitDefEqProofs [hc, hc', h, hsm, e3])))
    exact ⟨by simp [maxLen]; omega, k + 1, by omega, by omega, ⟨by first | rfl | (rw [← List.map_take]), okNs_all (fun v hv => by obtain ⟨p, _, rfl⟩ := List.mem_map.1 hv; rfl), okNs_all (fun v hv => by obtain ⟨p, _, rfl⟩ := List.mem_map.1 hv; rfl)⟩, by omega⟩
  have : k = L.length := by omega
  subst this
  ((try simp -implicitDefEqProofs); repeat' first | (with_reducible refine gdK_em (fun hc => ?_) (fun hc => ?_) <;> (have hc' := hc; (try simp at hc'); simp -implicitDefEqProofs [hc, hc'])) | (with_reducible refine cdK_em (fun hc => ?_) (fun hc => ?_) <;> (have hc' := hc; (try simp at hc'); simp -implicitDefEqProofs [hc, hc'])) | (with_reducible refine pickK_em (fun hc => ?_) (fun hc => ?_) <;> (have hc' := hc; (try simp at hc'); simp -implicitDefEqProofs [hc, hc'])))
  refine callK_fn (w_ContainsL _ ?_ x.links _ _ ?_ (fun l => (aget (closedM L) l.to).getD false) (fun l _ => w_ent1 _ _ ?_ ?_ _ l)) (fun hd => by cases hd) ?_
  · simp [OkS]
    exact ⟨okNs_all (fun v hv => by obtain ⟨p, _, rfl⟩ := List.mem_map.1 hv; rfl), okNs_all (fun v hv => by obtain ⟨p, _, rfl⟩ := List.mem_map.1 hv; rfl)⟩
  · simp
  · simp
  · simp
  ((try simp -implicitDefEqProofs); repeat' first | (with_reducible refine gdK_em (fun hc => ?_) (fun hc => ?_) <;> (have hc' := hc; (try simp at hc'); simp -implicitDefEqProofs [hc, hc'])) | (with_reducible refine cdK_em (fun hc => ?_) (fun hc => ?_) <;> (have hc' := hc; (try simp at hc'); simp -implicitDefEqProofs [hc, hc'])) | (with_reducible refine pickK_em (fun hc => ?_) (fun hc => ?_) <;> (have hc' := hc; (try simp at hc'); simp -implicitDefEqProofs [hc, hc'])))
end Go.Proofs.Ythfnaaeddlnckaa
end
