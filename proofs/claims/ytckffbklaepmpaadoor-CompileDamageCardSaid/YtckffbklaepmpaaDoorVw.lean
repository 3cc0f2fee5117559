/- Chapter 34: ContainsFunc on a view of instructions. -/
import Derived.Test.YtckffbklaepmpaaDoorMea
import Derived.Test.YtckffbklaepmpaaDoorSlices
set_option linter.unusedSimpArgs false
set_option linter.unusedVariables false
set_option maxHeartbeats 1000000
set_option maxRecDepth 8000
namespace Go.Proofs.YtckffbklaepmpaaDoor
open E

theorem w_cl (x : Ins) : Pure Tryd.prog 21 [x.v] (vB (x.op != 1)) := by
  obtain ⟨op, a, b⟩ := x
  (refine Pure.of_code mix Tryd.call21 k_21 (by simp) (fun hB => ?_); (try simp at hB); (try simp -implicitDefEqProofs [c_compile_FoldS1_21]))
  ((try simp -implicitDefEqProofs); repeat' first | ((first | with_reducible refine gdK_em (fun hc => ?_) (fun hc => ?_) | with_reducible refine cdK_em (fun hc => ?_) (fun hc => ?_) | with_reducible refine pickK_em (fun hc => ?_) (fun hc => ?_)) <;> (have hc' := hc; (try simp at hc'); simp -implicitDefEqProofs [hc, hc'])))

theorem w_idxV (S : St) (hS : OkS S) (b o z : Nat) (e : TypeId) (cs : List V) (hBx : S.boxes[b]? = some (.buf e z cs)) (l : List Ins) (hlen : l.length ≤ 1000000)
    (hv : ∀ k (h : k < l.length), (cs.drop (o + k * 3)).take 3 = [vI l[k].op, vI l[k].a, vI l[k].b] ∧ o + k * 3 + 3 ≤ cs.length) :
    FnS Tryd.prog 34 [.vw b o l.length, .fn (.func 21) []] S (vI (idxS (fun y => y.op != 1) l)) S := by
  have hb : b < S.boxes.length := (List.getElem?_eq_some_iff.1 hBx).1
  (refine FnS.of_code mix Tryd.call34 k_34 (by simp) (fun hB => ?_); (try simp at hB); (try simp -implicitDefEqProofs [c_compile_Ins__34]))
  refine loop_rule (X := Nat) (fun k => k ≤ l.length ∧ ∀ y ∈ l.take k, (y.op != 1) = false) (fun k => [(0, .vw b o l.length), (1, .fn (.func 21) []), (7, vI l.length), (8, vI k)]) (fun _ => S) (fun k => l.length - k) 0 ⟨by simp, by simp⟩ ?_ ?_
  · have := hS; simp [OkS] at this; simp [this, hb]
  rintro k ⟨hk, hn⟩ hbd
  rcases Nat.lt_or_ge k l.length with hlt | hge
  · have hx : l[k]? = some l[k] := by simp [hlt]
    obtain ⟨hv1, hv2⟩ := hv k hlt
    have hc := w_cl l[k]
    have e3 : IntKind.i64.wrap ((k : Int) + 1) = (k : Int) + 1 := wrap64 (by omega) (by omega)
    cases hq : (l[k].op != 1)
    · rw [hq] at hc
      ((try simp at hc); (try simp -implicitDefEqProofs [hlt, e3, hv1, hv2, hBx]); repeat' first | ((first | with_reducible refine gdK_em (fun hc => ?_) (fun hc => ?_) | with_reducible refine cdK_em (fun hc => ?_) (fun hc => ?_) | with_reducible refine pickK_em (fun hc => ?_) (fun hc => ?_)) <;> (have hc' := hc; (try simp at hc'); simp -implicitDefEqProofs [hc, hc', hlt, e3, hv1, hv2, hBx])) | (with_reducible apply callK_pure <;> first | (simp only [eras, era, eras_map]; first | with_reducible exact hc | simpa using hc) | (simp -implicitDefEqProofs [hlt, e3, hv1, hv2, hBx])))
      have hS' := hS
      simp [OkS] at hS'
      refine ⟨k + 1, ⟨by omega, fun y hy => ?_⟩, by omega, hS', hb, by simp⟩
      rw [take_next hx] at hy
      rcases List.mem_append.1 hy with hy | hy
      · simpa using hn y hy
      · simp at hy; subst hy; simpa using hq
    · rw [hq] at hc
      rw [idxS_in hx hn hq]
      ((try simp at hc); (try simp -implicitDefEqProofs [hlt, e3, hv1, hv2, hBx]); repeat' first | ((first | with_reducible refine gdK_em (fun hc => ?_) (fun hc => ?_) | with_reducible refine cdK_em (fun hc => ?_) (fun hc => ?_) | with_reducible refine pickK_em (fun hc => ?_) (fun hc => ?_)) <;> (have hc' := hc; (try simp at hc'); simp -implicitDefEqProofs [hc, hc', hlt, e3, hv1, hv2, hBx])) | (with_reducible apply callK_pure <;> first | (simp only [eras, era, eras_map]; first | with_reducible exact hc | simpa using hc) | (simp -implicitDefEqProofs [hlt, e3, hv1, hv2, hBx])))
      have hS' := hS
      simp [OkS] at hS'
      exact hS'
  · have : k = l.length := by omega
    subst this
    rw [List.take_length] at hn
    rw [idxS_out hn]
    have hS' := hS
    simp [OkS] at hS'
    ((try simp -implicitDefEqProofs [hS']); repeat' first | ((first | with_reducible refine gdK_em (fun hc => ?_) (fun hc => ?_) | with_reducible refine cdK_em (fun hc => ?_) (fun hc => ?_) | with_reducible refine pickK_em (fun hc => ?_) (fun hc => ?_)) <;> (have hc' := hc; (try simp at hc'); simp -implicitDefEqProofs [hc, hc', hS'])))

theorem w_cfV (S : St) (hS : OkS S) (b o z : Nat) (e : TypeId) (cs : List V) (hBx : S.boxes[b]? = some (.buf e z cs)) (l : List Ins) (hlen : l.length ≤ 1000000)
    (hv : ∀ k (h : k < l.length), (cs.drop (o + k * 3)).take 3 = [vI l[k].op, vI l[k].a, vI l[k].b] ∧ o + k * 3 + 3 ≤ cs.length) :
    FnS Tryd.prog 20 [.vw b o l.length, .fn (.func 21) []] S (vB (l.any fun y => y.op != 1)) S := by
  have hi := w_idxV S hS b o z e cs hBx l hlen hv
  have hb : b < S.boxes.length := (List.getElem?_eq_some_iff.1 hBx).1
  rw [← idxS_any]
  (try simp at hi)
  (refine FnS.of_code mix Tryd.call20 k_20 (by simp) (fun hB => ?_); (try simp at hB); (try simp -implicitDefEqProofs [c_compile_Ins__20]))
  refine callK_fn hi (fun hd => by cases hd) ?_
  have hS' := hS
  simp [OkS] at hS'
  ((try simp -implicitDefEqProofs [hS']); repeat' first | ((first | with_reducible refine gdK_em (fun hc => ?_) (fun hc => ?_) | with_reducible refine cdK_em (fun hc => ?_) (fun hc => ?_) | with_reducible refine pickK_em (fun hc => ?_) (fun hc => ?_)) <;> (have hc' := hc; (try simp at hc'); simp -implicitDefEqProofs [hc, hc', hS'])))

theorem meaB (c : Code) (hlen : c.ins.length ≤ 1000000) : Pure Tryd.prog 10 [c.v] (vB (meaR c).2) := by
  have hm := w_mea c hlen
  generalize meaR c = r at *
  obtain ⟨n, ok⟩ := r
  obtain ⟨cn, pair, ins⟩ := c
  simp only [vO] at hm
  (refine Pure.of_code mix Tryd.call10 k_10 (by simp) (fun hB => ?_); (try simp at hB); (try simp -implicitDefEqProofs [c_compile_Valid_10]))
  ((try simp at hm); (try simp -implicitDefEqProofs); repeat' first | ((first | with_reducible refine gdK_em (fun hc => ?_) (fun hc => ?_) | with_reducible refine cdK_em (fun hc => ?_) (fun hc => ?_) | with_reducible refine pickK_em (fun hc => ?_) (fun hc => ?_)) <;> (have hc' := hc; (try simp at hc'); simp -implicitDefEqProofs [hc, hc'])) | (with_reducible apply callK_pure <;> first | (simp only [eras, era, eras_map]; first | with_reducible exact hm | simpa using hm) | (simp -implicitDefEqProofs)))
end Go.Proofs.YtckffbklaepmpaaDoor
