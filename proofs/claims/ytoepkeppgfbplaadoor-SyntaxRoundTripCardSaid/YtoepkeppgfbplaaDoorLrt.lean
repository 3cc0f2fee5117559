/- Chapter 32: the law SyntaxRoundTrip. -/
import Derived.Test.YtoepkeppgfbplaaDoorPaw
import Derived.Test.YtoepkeppgfbplaaDoorPsq
import Derived.Test.YtoepkeppgfbplaaDoorPlz
import Derived.Test.YtoepkeppgfbplaaDoorJoi
import Derived.Test.YtoepkeppgfbplaaDoorPrg
import Derived.Test.YtoepkeppgfbplaaDoorSyg
set_option linter.unusedSimpArgs false
set_option linter.unusedVariables false
set_option maxHeartbeats 4000000
set_option maxRecDepth 8000
namespace Go.Proofs.YtoepkeppgfbplaaDoor
open E

theorem fewO_of {p : List Rul} (h : fewB p = true) : p.length ≤ 50 ∧ (∀ r ∈ p, r.stmts.length ≤ 40) ∧ ∀ r ∈ p, ∀ s ∈ r.stmts, s.ex.cnt ≤ 200 := by
 unfold fewB fewR fewS at h
 simp only [Bool.and_eq_true, List.all_eq_true, decide_eq_true_eq] at h
 exact ⟨h.2, fun r hr => (h.1 r hr).1.2, fun r hr s hs => ((h.1 r hr).2 s hs).2⟩
theorem l_round (p : List Rul) : Pure Tryd.prog 6 [Rul.l p] (vB true) := by
 have ha := w_awake32
 have hf := w_Few p
 by_cases h : fewB p = true
 ·rw [h] at hf
  obtain ⟨a, b, c⟩ := fewO_of h
  have hp := w_prog32 p (by omega) (fun r hr => by have := b r hr; omega) (fun r hr s hs => by have := c r hr s hs; omega)
  have hr := w_Print p (fun r hr s hs => by have := c r hr s hs; omega) (fun r hr s hs => .inl w_joinC)
  unfold printR at hr
  by_cases hb : prgB p = true
  ·rw [if_pos hb] at hr
   by_cases h8 : 8000 < (txt (prgP p)).length
   ·rw [if_pos h8] at hr
    (refine Pure.of_code mix Tryd.call6 k_6 (by simp) (fun hB => ?_); (try simp at hB); (try simp -implicitDefEqProofs [c_tallystonelaw32_SyntaxRoundTrip_6]))
    ((try simp at ha); (try simp at hf); (try simp at hp); (try simp at hr); (try simp -implicitDefEqProofs); repeat' first | ((with_reducible first | apply gdK_em | apply cdK_em | apply pickK_em) <;> (intro hc; have hc' := hc; (try simp at hc'); simp -implicitDefEqProofs [hc, hc'])) | (with_reducible apply callK_pure <;> first | (simp only [eras, era, eras_map]; first | with_reducible exact ha | with_reducible exact hf | with_reducible exact hp | with_reducible exact hr | simpa using ha | simpa using hf | simpa using hp | simpa using hr) | (simp -implicitDefEqProofs)))
   ·rw [if_neg h8] at hr
    have pp := w_Parse (txt (prgP p))
    rw [parse_print hb (by omega)] at pp
    have hs := w_Same p p
    rw [eqv_self] at hs
    generalize txt (prgP p) = t at *
    (refine Pure.of_code mix Tryd.call6 k_6 (by simp) (fun hB => ?_); (try simp at hB); (try simp -implicitDefEqProofs [c_tallystonelaw32_SyntaxRoundTrip_6]))
    ((try simp at ha); (try simp at hf); (try simp at hp); (try simp at hr); (try simp at pp); (try simp at hs); (try simp -implicitDefEqProofs); repeat' first | ((with_reducible first | apply gdK_em | apply cdK_em | apply pickK_em) <;> (intro hc; have hc' := hc; (try simp at hc'); simp -implicitDefEqProofs [hc, hc'])) | (with_reducible apply callK_pure <;> first | (simp only [eras, era, eras_map]; first | with_reducible exact ha | with_reducible exact hf | with_reducible exact hp | with_reducible exact hr | with_reducible exact pp | with_reducible exact hs | simpa using ha | simpa using hf | simpa using hp | simpa using hr | simpa using pp | simpa using hs) | (simp -implicitDefEqProofs)))
  ·rw [if_neg hb] at hr
   (refine Pure.of_code mix Tryd.call6 k_6 (by simp) (fun hB => ?_); (try simp at hB); (try simp -implicitDefEqProofs [c_tallystonelaw32_SyntaxRoundTrip_6]))
   ((try simp at ha); (try simp at hf); (try simp at hp); (try simp at hr); (try simp -implicitDefEqProofs); repeat' first | ((with_reducible first | apply gdK_em | apply cdK_em | apply pickK_em) <;> (intro hc; have hc' := hc; (try simp at hc'); simp -implicitDefEqProofs [hc, hc'])) | (with_reducible apply callK_pure <;> first | (simp only [eras, era, eras_map]; first | with_reducible exact ha | with_reducible exact hf | with_reducible exact hp | with_reducible exact hr | simpa using ha | simpa using hf | simpa using hp | simpa using hr) | (simp -implicitDefEqProofs)))
 ·rw [Bool.not_eq_true] at h
  rw [h] at hf
  (refine Pure.of_code mix Tryd.call6 k_6 (by simp) (fun hB => ?_); (try simp at hB); (try simp -implicitDefEqProofs [c_tallystonelaw32_SyntaxRoundTrip_6]))
  ((try simp at ha); (try simp at hf); (try simp -implicitDefEqProofs); repeat' first | ((with_reducible first | apply gdK_em | apply cdK_em | apply pickK_em) <;> (intro hc; have hc' := hc; (try simp at hc'); simp -implicitDefEqProofs [hc, hc'])) | (with_reducible apply callK_pure <;> first | (simp only [eras, era, eras_map]; first | with_reducible exact ha | with_reducible exact hf | simpa using ha | simpa using hf) | (simp -implicitDefEqProofs)))
end Go.Proofs.YtoepkeppgfbplaaDoor
