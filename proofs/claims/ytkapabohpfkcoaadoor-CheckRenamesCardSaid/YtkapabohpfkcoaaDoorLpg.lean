/- Chapter 33: the laws CheckProgram and CheckPrefixes. -/
import Derived.Test.YtkapabohpfkcoaaDoorChw
import Derived.Test.YtkapabohpfkcoaaDoorRck
import Derived.Test.YtkapabohpfkcoaaDoorChp
import Derived.Test.YtkapabohpfkcoaaDoorPrg
import Derived.Test.YtkapabohpfkcoaaDoorLty
set_option linter.unusedSimpArgs false
set_option linter.unusedVariables false
set_option maxHeartbeats 4000000
set_option maxRecDepth 8000
namespace Go.Proofs.YtkapabohpfkcoaaDoor
open E

theorem w_few (p : List Rul) (l : List Account) : Pure Tryd.prog 33 [Rul.l p, Account.l l] (vB (fewB p && decide (l.length ≤ 210))) := by
  have hf := w_Few p
  by_cases h1 : fewB p = true
  · rw [h1] at hf ⊢
    have h2 : decide (l.length ≤ 210) = decide ((l.length : Int) ≤ 210) := by rw [decide_eq_decide]; omega
    rw [h2]
    (refine Pure.of_code mix Tryd.call33 k_33 (by simp) (fun hB => ?_); (try simp at hB); (try simp -implicitDefEqProofs [c_tallystonelaw33_few_33]))
    ((try simp at hf); (try simp -implicitDefEqProofs); repeat' first | ((first | with_reducible refine gdK_em (fun hc => ?_) (fun hc => ?_) | with_reducible refine cdK_em (fun hc => ?_) (fun hc => ?_) | with_reducible refine pickK_em (fun hc => ?_) (fun hc => ?_)) <;> (have hc' := hc; (try simp at hc'); simp -implicitDefEqProofs [hc, hc'])) | (with_reducible apply callK_pure <;> first | (simp only [eras, era, eras_map]; first | with_reducible exact hf | simpa using hf) | (simp -implicitDefEqProofs)))
  · rw [Bool.not_eq_true] at h1
    rw [h1] at hf ⊢
    (refine Pure.of_code mix Tryd.call33 k_33 (by simp) (fun hB => ?_); (try simp at hB); (try simp -implicitDefEqProofs [c_tallystonelaw33_few_33]))
    ((try simp at hf); (try simp -implicitDefEqProofs); repeat' first | ((first | with_reducible refine gdK_em (fun hc => ?_) (fun hc => ?_) | with_reducible refine cdK_em (fun hc => ?_) (fun hc => ?_) | with_reducible refine pickK_em (fun hc => ?_) (fun hc => ?_)) <;> (have hc' := hc; (try simp at hc'); simp -implicitDefEqProofs [hc, hc'])) | (with_reducible apply callK_pure <;> first | (simp only [eras, era, eras_map]; first | with_reducible exact hf | simpa using hf) | (simp -implicitDefEqProofs)))
theorem few_of {p : List Rul} (h : fewB p = true) : p.length ≤ 50 ∧ (∀ r ∈ p, r.stmts.length ≤ 40) ∧ (∀ r ∈ p, ∀ s ∈ r.stmts, s.ex.cnt ≤ 200) ∧ ∀ r ∈ p, ∀ s ∈ r.stmts, s.name.length ≤ 100 := by
  unfold fewB fewR fewS at h
  simp only [Bool.and_eq_true, List.all_eq_true, decide_eq_true_eq] at h
  exact ⟨h.2, fun r hr => (h.1 r hr).1.2, fun r hr s hs => ((h.1 r hr).2 s hs).2, fun r hr s hs => ((h.1 r hr).2 s hs).1⟩
theorem w_progOf {p : List Rul} (h : fewB p = true) : Pure Tryd.prog 35 [Rul.l p] (Rul.l p) := by
  obtain ⟨a, b, c, _⟩ := few_of h
  exact w_prog32 p (by omega) (fun r hr => by have := b r hr; omega) (fun r hr s hs => by have := c r hr s hs; omega)
theorem w_CheckOf {p : List Rul} {l : List Account} (h : fewB p = true) (hl : l.length ≤ 210) : Pure Tryd.prog 34 [Rul.l p, Account.l l] (.tup [vI (chkR p l).1, vI (chkR p l).2]) := by
  obtain ⟨a, b, c, _⟩ := few_of h
  exact w_Check p l (fun r hr s hs => by have := c r hr s hs; omega) (by omega)
theorem l_program (p : List Rul) (l : List Account) (hok : ∀ r ∈ p, r.ok) : Pure Tryd.prog 8 [Rul.l p, Account.l l] (vB true) := by
  have ha := w_awake
  have hf := w_few p l
  by_cases h : (fewB p && decide (l.length ≤ 210)) = true
  · rw [h] at hf
    simp only [Bool.and_eq_true, decide_eq_true_eq] at h
    obtain ⟨h1, h2⟩ := h
    obtain ⟨a, b, c, _⟩ := few_of h1
    have hp := w_progOf h1
    have hc := w_CheckOf h1 h2
    have hr := w_rCheck p l hok (fun r hr s hs => by have := c r hr s hs; omega) (fun r hr => by have := b r hr; omega) (by omega) (by omega)
    generalize chkR p l = q at *
    (refine Pure.of_code mix Tryd.call8 k_8 (by simp) (fun hB => ?_); (try simp at hB); (try simp -implicitDefEqProofs [c_tallystonelaw33_CheckProgram_8]))
    ((try simp at ha); (try simp at hf); (try simp at hp); (try simp at hc); (try simp at hr); (try simp -implicitDefEqProofs); repeat' first | ((first | with_reducible refine gdK_em (fun hc => ?_) (fun hc => ?_) | with_reducible refine cdK_em (fun hc => ?_) (fun hc => ?_) | with_reducible refine pickK_em (fun hc => ?_) (fun hc => ?_)) <;> (have hc' := hc; (try simp at hc'); simp -implicitDefEqProofs [hc, hc'])) | (with_reducible apply callK_pure <;> first | (simp only [eras, era, eras_map]; first | with_reducible exact ha | with_reducible exact hf | with_reducible exact hp | with_reducible exact hc | with_reducible exact hr | simpa using ha | simpa using hf | simpa using hp | simpa using hc | simpa using hr) | (simp -implicitDefEqProofs)))
  · rw [Bool.not_eq_true] at h
    rw [h] at hf
    (refine Pure.of_code mix Tryd.call8 k_8 (by simp) (fun hB => ?_); (try simp at hB); (try simp -implicitDefEqProofs [c_tallystonelaw33_CheckProgram_8]))
    ((try simp at ha); (try simp at hf); (try simp -implicitDefEqProofs); repeat' first | ((first | with_reducible refine gdK_em (fun hc => ?_) (fun hc => ?_) | with_reducible refine cdK_em (fun hc => ?_) (fun hc => ?_) | with_reducible refine pickK_em (fun hc => ?_) (fun hc => ?_)) <;> (have hc' := hc; (try simp at hc'); simp -implicitDefEqProofs [hc, hc'])) | (with_reducible apply callK_pure <;> first | (simp only [eras, era, eras_map]; first | with_reducible exact ha | with_reducible exact hf | simpa using ha | simpa using hf) | (simp -implicitDefEqProofs)))
theorem l_prefixes (p : List Rul) (l : List Account) (n : Int) (hn0 : 0 ≤ n) (hn : n ≤ 255) : Pure Tryd.prog 9 [Rul.l p, Account.l l, .t (.int .u8 n)] (vB true) := by
  have ha := w_awake
  have hf := w_few p l
  by_cases h : (fewB p && decide (l.length ≤ 210)) = true
  · rw [h] at hf
    simp only [Bool.and_eq_true, decide_eq_true_eq] at h
    obtain ⟨h1, h2⟩ := h
    obtain ⟨a, b, c, _⟩ := few_of h1
    obtain ⟨k, hk⟩ : ∃ k : Nat, n.tmod ((p.length : Int) + 1) = k := ⟨(n.tmod ((p.length : Int) + 1)).toNat, by rw [Int.toNat_of_nonneg (Int.tmod_nonneg _ hn0)]⟩
    have hk1 : k ≤ p.length := by
      have := Int.tmod_lt_of_pos n (show (0 : Int) < (p.length : Int) + 1 by omega)
      omega
    have h1k : fewB (p.take k) = true := by
      unfold fewB at h1 ⊢
      simp only [Bool.and_eq_true, List.all_eq_true, decide_eq_true_eq] at h1 ⊢
      exact ⟨fun x hx => h1.1 x (List.mem_of_mem_take hx), by simp; omega⟩
    have hp := w_progOf h1
    have hc := w_CheckOf h1 h2
    have hp' := w_progOf h1k
    have hc' := w_CheckOf h1k h2
    have hlaw := chkR_take p l k hk1
    generalize chkR p l = q at *
    generalize chkR (p.take k) l = q' at *
    obtain ⟨i, e⟩ := q
    obtain ⟨j, f⟩ := q'
    simp only [] at hc hc' hlaw
    (refine Pure.of_code mix Tryd.call9 k_9 (by simp) (fun hB => ?_); (try simp at hB); (try simp -implicitDefEqProofs [c_tallystonelaw33_CheckPrefixes_9]))
    have e0 : IntKind.i64.wrap n = n := wrap64 (by omega) (by omega)
    have e1 : IntKind.i64.wrap ((p.length : Int) + 1) = (p.length : Int) + 1 := wrap64 (by omega) (by omega)
    simp only [Rul.l, List.map_take] at hp' hc'
    ((try simp at ha); (try simp at hf); (try simp at hp); (try simp at hc); (try simp -implicitDefEqProofs [e0, e1, hk]); repeat' first | ((first | with_reducible refine gdK_em (fun hc => ?_) (fun hc => ?_) | with_reducible refine cdK_em (fun hc => ?_) (fun hc => ?_) | with_reducible refine pickK_em (fun hc => ?_) (fun hc => ?_)) <;> (have hc' := hc; (try simp at hc'); simp -implicitDefEqProofs [hc, hc', e0, e1, hk])) | (with_reducible apply callK_pure <;> first | (simp only [eras, era, eras_map]; first | with_reducible exact ha | with_reducible exact hf | with_reducible exact hp | with_reducible exact hc | simpa using ha | simpa using hf | simpa using hp | simpa using hc) | (simp -implicitDefEqProofs [e0, e1, hk])))
    refine ⟨by omega, ⟨hk1, fun a ha => rfl⟩, ?_⟩
    by_cases h1 : e = 1
    · subst h1
      rw [if_pos rfl] at hlaw
      subst hlaw
      ((try simp at hp'); (try simp at hc'); (try simp -implicitDefEqProofs [e0, e1, hk]); repeat' first | ((first | with_reducible refine gdK_em (fun hc => ?_) (fun hc => ?_) | with_reducible refine cdK_em (fun hc => ?_) (fun hc => ?_) | with_reducible refine pickK_em (fun hc => ?_) (fun hc => ?_)) <;> (have hc' := hc; (try simp at hc'); simp -implicitDefEqProofs [hc, hc', e0, e1, hk])) | (with_reducible apply callK_pure <;> first | (simp only [eras, era, eras_map]; first | with_reducible exact hp' | with_reducible exact hc' | simpa using hp' | simpa using hc') | (simp -implicitDefEqProofs [e0, e1, hk])))
    have h1' : (e == 1) = false := by simpa using h1
    rw [if_neg h1] at hlaw
    by_cases h2 : e = 0 ∨ (k : Int) ≤ i
    · rw [if_pos h2] at hlaw
      cases hlaw
      rcases h2 with rfl | h2
      · ((try simp at hp'); (try simp at hc'); (try simp -implicitDefEqProofs [e0, e1, hk]); repeat' first | ((first | with_reducible refine gdK_em (fun hc => ?_) (fun hc => ?_) | with_reducible refine cdK_em (fun hc => ?_) (fun hc => ?_) | with_reducible refine pickK_em (fun hc => ?_) (fun hc => ?_)) <;> (have hc' := hc; (try simp at hc'); simp -implicitDefEqProofs [hc, hc', e0, e1, hk])) | (with_reducible apply callK_pure <;> first | (simp only [eras, era, eras_map]; first | with_reducible exact hp' | with_reducible exact hc' | simpa using hp' | simpa using hc') | (simp -implicitDefEqProofs [e0, e1, hk])))
      · have h2' : decide ((k : Int) ≤ i) = true := by simpa using h2
        ((try simp at hp'); (try simp at hc'); (try simp -implicitDefEqProofs [e0, e1, hk, h1, h1', h2, h2']); repeat' first | ((first | with_reducible refine gdK_em (fun hc => ?_) (fun hc => ?_) | with_reducible refine cdK_em (fun hc => ?_) (fun hc => ?_) | with_reducible refine pickK_em (fun hc => ?_) (fun hc => ?_)) <;> (have hc' := hc; (try simp at hc'); simp -implicitDefEqProofs [hc, hc', e0, e1, hk, h1, h1', h2, h2'])) | (with_reducible apply callK_pure <;> first | (simp only [eras, era, eras_map]; first | with_reducible exact hp' | with_reducible exact hc' | simpa using hp' | simpa using hc') | (simp -implicitDefEqProofs [e0, e1, hk, h1, h1', h2, h2'])))
    · rw [if_neg h2] at hlaw
      cases hlaw
      have h3 : ¬ e = 0 := fun q => h2 (.inl q)
      have h3' : (e == 0) = false := by simpa using h3
      have h4 : ¬ (k : Int) ≤ i := fun q => h2 (.inr q)
      have h4' : decide ((k : Int) ≤ i) = false := by simpa using h4
      ((try simp at hp'); (try simp at hc'); (try simp -implicitDefEqProofs [e0, e1, hk, h1, h1', h3, h3', h4, h4']); repeat' first | ((first | with_reducible refine gdK_em (fun hc => ?_) (fun hc => ?_) | with_reducible refine cdK_em (fun hc => ?_) (fun hc => ?_) | with_reducible refine pickK_em (fun hc => ?_) (fun hc => ?_)) <;> (have hc' := hc; (try simp at hc'); simp -implicitDefEqProofs [hc, hc', e0, e1, hk, h1, h1', h3, h3', h4, h4'])) | (with_reducible apply callK_pure <;> first | (simp only [eras, era, eras_map]; first | with_reducible exact hp' | with_reducible exact hc' | simpa using hp' | simpa using hc') | (simp -implicitDefEqProofs [e0, e1, hk, h1, h1', h3, h3', h4, h4'])))
  · rw [Bool.not_eq_true] at h
    rw [h] at hf
    (refine Pure.of_code mix Tryd.call9 k_9 (by simp) (fun hB => ?_); (try simp at hB); (try simp -implicitDefEqProofs [c_tallystonelaw33_CheckPrefixes_9]))
    ((try simp at ha); (try simp at hf); (try simp -implicitDefEqProofs); repeat' first | ((first | with_reducible refine gdK_em (fun hc => ?_) (fun hc => ?_) | with_reducible refine cdK_em (fun hc => ?_) (fun hc => ?_) | with_reducible refine pickK_em (fun hc => ?_) (fun hc => ?_)) <;> (have hc' := hc; (try simp at hc'); simp -implicitDefEqProofs [hc, hc'])) | (with_reducible apply callK_pure <;> first | (simp only [eras, era, eras_map]; first | with_reducible exact ha | with_reducible exact hf | simpa using ha | simpa using hf) | (simp -implicitDefEqProofs)))
end Go.Proofs.YtkapabohpfkcoaaDoor
