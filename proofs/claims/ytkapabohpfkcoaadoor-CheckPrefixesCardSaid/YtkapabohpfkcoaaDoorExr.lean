/- Chapter 33: the checker's types of expressions without operands. -/
import Derived.Test.YtkapabohpfkcoaaDoorExq
set_option linter.unusedSimpArgs false
set_option linter.unusedVariables false
set_option maxHeartbeats 4000000
set_option maxRecDepth 8000
namespace Go.Proofs.YtkapabohpfkcoaaDoor
open E

theorem w_exprL (b : Nat) (M : List (List UInt8)) (pair : Bool) (kd vl fr to : Int) (nm : List UInt8) (hk : kd = 1 ∨ kd = 21 ∨ kd = 22) : ExpC b M pair (.mk kd vl fr to nm []) := by
  intro B hB
  have hg := hB.app
  have hg0 := get0 B
  have hg1 := get1 B
  have hle := fun l l' n m h => LeBs.app' (l := l) (l' := l') (hB.le n m h)
  have hdr := fun l n m h => LeBs.drop' (n := n) (m := m) l (hB.le n m h)
  have hbl := hB.lt
  rw [Xp.v, Xp.c_mk]
  unfold mistV
  rcases hk with rfl | rfl | rfl
  · have hi : Xp.inf (fun s => decide (s ∈ M)) pair (.mk 1 vl fr to nm []) = (1, 0) := by simp [Xp.inf, Xp.infs, finI, ownI]
    rw [hi]
    refine ⟨fun _ => ?_, fun h => absurd rfl h⟩
    (refine FnS.of_code mix Tryd.call53 k_53 (by simp) (fun hB => ?_); (try simp at hB); (try simp -implicitDefEqProofs [c_check_checker__expr_53]))
    ((try simp -implicitDefEqProofs [hg, hg0, hg1, hle, hdr]); repeat' first | ((first | with_reducible refine gdK_em (fun hc => ?_) (fun hc => ?_) | with_reducible refine cdK_em (fun hc => ?_) (fun hc => ?_) | with_reducible refine pickK_em (fun hc => ?_) (fun hc => ?_)) <;> (have hc' := hc; (try simp at hc'); simp -implicitDefEqProofs [hc, hc', hg, hg0, hg1, hle, hdr])))
  · by_cases hft : to < fr
    · have hft' : decide (to < fr) = true := by simpa using hft
      have hi : Xp.inf (fun s => decide (s ∈ M)) pair (.mk 21 vl fr to nm []) = (0, 2) := by simp [Xp.inf, Xp.infs, finI, ownI, hft]
      rw [hi]
      refine ⟨fun h => absurd h (by simp), fun _ => ?_⟩
      (refine FnP.of_code mix Tryd.call53 k_53 (by simp) (fun hB => ?_); (try simp at hB); (try simp -implicitDefEqProofs [c_check_checker__expr_53]))
      ((try simp -implicitDefEqProofs [hg, hg0, hg1, hle, hdr, hft']); repeat' first | ((first | with_reducible refine gdK_em (fun hc => ?_) (fun hc => ?_) | with_reducible refine cdK_em (fun hc => ?_) (fun hc => ?_) | with_reducible refine pickK_em (fun hc => ?_) (fun hc => ?_)) <;> (have hc' := hc; (try simp at hc'); simp -implicitDefEqProofs [hc, hc', hg, hg0, hg1, hle, hdr, hft'])))
    · have hft' : decide (to < fr) = false := by simpa using hft
      have hi : Xp.inf (fun s => decide (s ∈ M)) pair (.mk 21 vl fr to nm []) = (1, 0) := by simp [Xp.inf, Xp.infs, finI, ownI, hft]
      rw [hi]
      refine ⟨fun _ => ?_, fun h => absurd rfl h⟩
      (refine FnS.of_code mix Tryd.call53 k_53 (by simp) (fun hB => ?_); (try simp at hB); (try simp -implicitDefEqProofs [c_check_checker__expr_53]))
      ((try simp -implicitDefEqProofs [hg, hg0, hg1, hle, hdr, hft']); repeat' first | ((first | with_reducible refine gdK_em (fun hc => ?_) (fun hc => ?_) | with_reducible refine cdK_em (fun hc => ?_) (fun hc => ?_) | with_reducible refine pickK_em (fun hc => ?_) (fun hc => ?_)) <;> (have hc' := hc; (try simp at hc'); simp -implicitDefEqProofs [hc, hc', hg, hg0, hg1, hle, hdr, hft'])))
  · by_cases hft : to < fr
    · have hft' : decide (to < fr) = true := by simpa using hft
      have hi : Xp.inf (fun s => decide (s ∈ M)) pair (.mk 22 vl fr to nm []) = (0, 2) := by simp [Xp.inf, Xp.infs, finI, ownI, hft]
      rw [hi]
      refine ⟨fun h => absurd h (by simp), fun _ => ?_⟩
      (refine FnP.of_code mix Tryd.call53 k_53 (by simp) (fun hB => ?_); (try simp at hB); (try simp -implicitDefEqProofs [c_check_checker__expr_53]))
      ((try simp -implicitDefEqProofs [hg, hg0, hg1, hle, hdr, hft']); repeat' first | ((first | with_reducible refine gdK_em (fun hc => ?_) (fun hc => ?_) | with_reducible refine cdK_em (fun hc => ?_) (fun hc => ?_) | with_reducible refine pickK_em (fun hc => ?_) (fun hc => ?_)) <;> (have hc' := hc; (try simp at hc'); simp -implicitDefEqProofs [hc, hc', hg, hg0, hg1, hle, hdr, hft'])))
    · have hft' : decide (to < fr) = false := by simpa using hft
      cases pair
      · have hi : Xp.inf (fun s => decide (s ∈ M)) false (.mk 22 vl fr to nm []) = (0, 7) := by simp [Xp.inf, Xp.infs, finI, ownI, hft]
        rw [hi]
        refine ⟨fun h => absurd h (by simp), fun _ => ?_⟩
        (refine FnP.of_code mix Tryd.call53 k_53 (by simp) (fun hB => ?_); (try simp at hB); (try simp -implicitDefEqProofs [c_check_checker__expr_53]))
        ((try simp -implicitDefEqProofs [hg, hg0, hg1, hle, hdr, hft']); repeat' first | ((first | with_reducible refine gdK_em (fun hc => ?_) (fun hc => ?_) | with_reducible refine cdK_em (fun hc => ?_) (fun hc => ?_) | with_reducible refine pickK_em (fun hc => ?_) (fun hc => ?_)) <;> (have hc' := hc; (try simp at hc'); simp -implicitDefEqProofs [hc, hc', hg, hg0, hg1, hle, hdr, hft'])))
      · have hi : Xp.inf (fun s => decide (s ∈ M)) true (.mk 22 vl fr to nm []) = (1, 0) := by simp [Xp.inf, Xp.infs, finI, ownI, hft]
        rw [hi]
        refine ⟨fun _ => ?_, fun h => absurd rfl h⟩
        (refine FnS.of_code mix Tryd.call53 k_53 (by simp) (fun hB => ?_); (try simp at hB); (try simp -implicitDefEqProofs [c_check_checker__expr_53]))
        ((try simp -implicitDefEqProofs [hg, hg0, hg1, hle, hdr, hft']); repeat' first | ((first | with_reducible refine gdK_em (fun hc => ?_) (fun hc => ?_) | with_reducible refine cdK_em (fun hc => ?_) (fun hc => ?_) | with_reducible refine pickK_em (fun hc => ?_) (fun hc => ?_)) <;> (have hc' := hc; (try simp at hc'); simp -implicitDefEqProofs [hc, hc', hg, hg0, hg1, hle, hdr, hft'])))
/-- The checker gives a proper expression its type, or panics with its error. -/
theorem w_expr (b : Nat) (M : List (List UInt8)) (pair : Bool) : ∀ (x : Xp), x.prop = true → ExpC b M pair x := by
  refine Xp.ind fun kd vl fr to nm xs ih hp => ?_
  rw [Xp.prop, Bool.and_eq_true] at hp
  obtain ⟨hs, hps⟩ := hp
  have hmem : ∀ a ∈ xs, ExpC b M pair a := fun a ha => ih a ha (by
    rw [Xp.props_all] at hps
    simp only [Bool.not_eq_true', List.any_eq_false] at hps
    simpa using hps a ha)
  have hnil : argsI kd = 0 → xs = [] := fun h => by
    simp only [shpB, Bool.and_eq_true, beq_iff_eq, h] at hs
    exact List.length_eq_zero_iff.1 (by have := hs.1.2; omega)
  by_cases h2 : kd = 2
  · have := hnil (by subst h2; rfl)
    subst h2
    exact w_exprN b M pair vl fr to nm xs this
  by_cases hk : kd = 1 ∨ kd = 21 ∨ kd = 22
  · have := hnil (by rcases hk with rfl | rfl | rfl <;> rfl)
    subst this
    exact w_exprL b M pair kd vl fr to nm hk
  · exact w_exprO b M pair kd vl fr to nm xs hmem ⟨fun h => hk (.inl h), h2, fun h => hk (.inr (.inl h)), fun h => hk (.inr (.inr h))⟩
end Go.Proofs.YtkapabohpfkcoaaDoor
