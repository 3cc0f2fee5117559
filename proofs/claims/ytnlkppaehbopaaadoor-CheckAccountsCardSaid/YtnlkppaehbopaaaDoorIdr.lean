/- slices.IndexFunc, slices.ContainsFunc for rules. Printed by gen_idx.py. -/
import Derived.Test.YtnlkppaehbopaaaDoorIdf
set_option linter.unusedSimpArgs false
set_option linter.unusedVariables false
set_option maxHeartbeats 2000000
set_option maxRecDepth 8000
namespace Go.Proofs.YtnlkppaehbopaaaDoor
open E

theorem w_IdxR (S : St) (hS : OkS S) (l : List Rul) (f : Nat) (caps : List V) (hcp : okNs S.boxes.length S.toks.length caps = true) (q : Rul → Bool) (h : ∀ x ∈ l, FnS Tryd.prog f (Rul.v x :: caps) S (.t (.bool (q x))) S) :
    FnS Tryd.prog 61 [Rul.l l, .fn (.func f) caps] S (.t (.int .i64 (idxS q l))) S := by
  (refine FnS.of_code mix Tryd.call61 k_61 (by simp) (fun hB => ?_); (try simp at hB); (try simp -implicitDefEqProofs [c_syntax_Rule__61]))
  refine loop_rule (X := Nat) (fun k => k ≤ l.length ∧ ∀ y ∈ l.take k, q y = false) (fun k => [(0, Rul.l l), (1, .fn (.func f) caps), (7, vI l.length), (8, vI k)]) (fun _ => S) (fun k => l.length - k) 0 ⟨by simp, by simp⟩ ?_ ?_
  · have := hS; simp [OkS] at this; simp [this, hcp]
  rintro k ⟨hk, hn⟩ hbd
  rcases Nat.lt_or_ge k l.length with hlt | hge
  · have hx : l[k]? = some l[k] := by simp [hlt]
    have hc := h l[k] (List.getElem_mem hlt)
    have e3 : IntKind.i64.wrap ((k : Int) + 1) = (k : Int) + 1 := wrap64 (by omega) (by simp [maxLen] at hB; omega)
    have hlc := len_rc l[k]
    have htc := take_rc l[k]
    cases hq : q l[k]
    · rw [hq] at hc
      ((try simp -implicitDefEqProofs [hlt, e3, hlc, htc]); repeat' first | ((first | with_reducible refine gdK_em (fun hc => ?_) (fun hc => ?_) | with_reducible refine cdK_em (fun hc => ?_) (fun hc => ?_) | with_reducible refine pickK_em (fun hc => ?_) (fun hc => ?_)) <;> (have hc' := hc; (try simp at hc'); simp -implicitDefEqProofs [hc, hc', hlt, e3, hlc, htc])))
      refine callK_fn hc (fun hd => by cases hd) ?_
      ((try simp -implicitDefEqProofs [hlt, e3]); repeat' first | ((first | with_reducible refine gdK_em (fun hc => ?_) (fun hc => ?_) | with_reducible refine cdK_em (fun hc => ?_) (fun hc => ?_) | with_reducible refine pickK_em (fun hc => ?_) (fun hc => ?_)) <;> (have hc' := hc; (try simp at hc'); simp -implicitDefEqProofs [hc, hc', hlt, e3])))
      have hS' := hS
      simp [OkS] at hS'
      refine ⟨k + 1, ⟨by omega, fun y hy => ?_⟩, by omega, ?_⟩
      · rw [take_next hx] at hy
        rcases List.mem_append.1 hy with h1 | h1
        · exact hn y h1
        · simp at h1; subst h1; exact hq
      · simp [hS', hcp]; try omega
    · rw [hq] at hc
      rw [idxS_in hx hn hq]
      ((try simp -implicitDefEqProofs [hlt, e3, hlc, htc]); repeat' first | ((first | with_reducible refine gdK_em (fun hc => ?_) (fun hc => ?_) | with_reducible refine cdK_em (fun hc => ?_) (fun hc => ?_) | with_reducible refine pickK_em (fun hc => ?_) (fun hc => ?_)) <;> (have hc' := hc; (try simp at hc'); simp -implicitDefEqProofs [hc, hc', hlt, e3, hlc, htc])))
      refine callK_fn hc (fun hd => by cases hd) ?_
      have hS' := hS
      simp [OkS] at hS'
      ((try simp -implicitDefEqProofs [hlt, e3, hS']); repeat' first | ((first | with_reducible refine gdK_em (fun hc => ?_) (fun hc => ?_) | with_reducible refine cdK_em (fun hc => ?_) (fun hc => ?_) | with_reducible refine pickK_em (fun hc => ?_) (fun hc => ?_)) <;> (have hc' := hc; (try simp at hc'); simp -implicitDefEqProofs [hc, hc', hlt, e3, hS'])))
  · have : k = l.length := by omega
    subst this
    rw [List.take_length] at hn
    rw [idxS_out hn]
    have hS' := hS
    simp [OkS] at hS'
    ((try simp -implicitDefEqProofs [hS']); repeat' first | ((first | with_reducible refine gdK_em (fun hc => ?_) (fun hc => ?_) | with_reducible refine cdK_em (fun hc => ?_) (fun hc => ?_) | with_reducible refine pickK_em (fun hc => ?_) (fun hc => ?_)) <;> (have hc' := hc; (try simp at hc'); simp -implicitDefEqProofs [hc, hc', hS'])))
theorem w_ConR (S : St) (hS : OkS S) (l : List Rul) (f : Nat) (caps : List V) (hcp : okNs S.boxes.length S.toks.length caps = true) (q : Rul → Bool) (h : ∀ x ∈ l, FnS Tryd.prog f (Rul.v x :: caps) S (.t (.bool (q x))) S) :
    FnS Tryd.prog 36 [Rul.l l, .fn (.func f) caps] S (.t (.bool (l.any q))) S := by
  have hi := w_IdxR S hS l f caps hcp q h
  rw [← idxS_any]
  generalize idxS q l = r at *
  (refine FnS.of_code mix Tryd.call36 k_36 (by simp) (fun hB => ?_); (try simp at hB); (try simp -implicitDefEqProofs [c_syntax_Rule__36]))
  refine callK_fn hi (fun hd => by cases hd) ?_
  have hS' := hS
  simp [OkS] at hS'
  ((try simp -implicitDefEqProofs [hS']); repeat' first | ((first | with_reducible refine gdK_em (fun hc => ?_) (fun hc => ?_) | with_reducible refine cdK_em (fun hc => ?_) (fun hc => ?_) | with_reducible refine pickK_em (fun hc => ?_) (fun hc => ?_)) <;> (have hc' := hc; (try simp at hc'); simp -implicitDefEqProofs [hc, hc', hS'])))

end Go.Proofs.YtnlkppaehbopaaaDoor
