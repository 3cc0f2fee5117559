/- Chapter 32: the law SyntaxNormal. -/
import Derived.Test.YtoepkeppgfbplaaDoorPaw
import Derived.Test.YtoepkeppgfbplaaDoorPsq
import Derived.Test.YtoepkeppgfbplaaDoorPlz
import Derived.Test.YtoepkeppgfbplaaDoorJoi
import Derived.Test.YtoepkeppgfbplaaDoorCodeD
set_option linter.unusedSimpArgs false
set_option linter.unusedVariables false
set_option maxHeartbeats 4000000
set_option maxRecDepth 8000
namespace Go.Proofs.YtoepkeppgfbplaaDoor
open E

theorem parse_norm (s : List UInt8) : ((parseR s).2.2 = 0 ∧ prgB (parseR s).1 = true ∧ ∀ r ∈ (parseR s).1, ∀ t ∈ r.stmts, t.ex.cnt ≤ 10000) ∨ ((parseR s).2.2 ≠ 0 ∧ (parseR s).1 = []) := by
 unfold parseR
 by_cases h0 : (tokensR s).2.2 = 0
 ·rw [if_pos h0]
  obtain ⟨h1, h2⟩ := tokens_lex h0
  have hll := (lex_len h2).1
  generalize (tokensR s).1 = l at *
  unfold parsT
  cases hq : prgT l with
  | er r => exact .inr ⟨by simp, rfl⟩
  | ok p r =>
   obtain ⟨_, _, h4⟩ := prgT_min hq
   simp only []
   split
   ·rename_i hb
    exact .inl ⟨rfl, hb, fun r hr t ht => by have := (h4 r hr).1 t ht; omega⟩
   ·exact .inr ⟨by simp, rfl⟩
 ·rw [if_neg h0]
  exact .inr ⟨h0, rfl⟩
theorem l_normal (s : List UInt8) : Pure Tryd.prog 7 [vS s] (vB true) := by
 have ha := w_awake32
 by_cases hl : 9000 < s.length
 ·have h1 : decide ((9000 : Int) < s.length) = true := by simp; omega
  (refine Pure.of_code mix Tryd.call7 k_7 (by simp) (fun hB => ?_); (try simp at hB); (try simp -implicitDefEqProofs [c_tallystonelaw32_SyntaxNormal_7]))
  ((try simp at ha); (try simp -implicitDefEqProofs [h1]); repeat' first | ((with_reducible first | apply gdK_em | apply cdK_em | apply pickK_em) <;> (intro hc; have hc' := hc; (try simp at hc'); simp -implicitDefEqProofs [hc, hc', h1])) | (with_reducible apply callK_pure <;> first | (simp only [eras, era, eras_map]; first | with_reducible exact ha | simpa using ha) | (simp -implicitDefEqProofs [h1])))
 have h1 : decide ((9000 : Int) < s.length) = false := by simp; omega
 have p1 := w_Parse s
 have hn := parse_norm s
 generalize parseR s = A at *
 obtain ⟨p, i, e⟩ := A
 simp only [] at p1 hn
 rcases hn with ⟨rfl, hb, hc⟩ | ⟨he, rfl⟩
 ·have hr := w_Print p hc (fun r hr s hs => .inl w_joinC)
  unfold printR at hr
  rw [if_pos hb] at hr
  by_cases h8 : 8000 < (txt (prgP p)).length
  ·rw [if_pos h8] at hr
   (refine Pure.of_code mix Tryd.call7 k_7 (by simp) (fun hB => ?_); (try simp at hB); (try simp -implicitDefEqProofs [c_tallystonelaw32_SyntaxNormal_7]))
   ((try simp at ha); (try simp at p1); (try simp at hr); (try simp -implicitDefEqProofs [h1]); repeat' first | ((with_reducible first | apply gdK_em | apply cdK_em | apply pickK_em) <;> (intro hc; have hc' := hc; (try simp at hc'); simp -implicitDefEqProofs [hc, hc', h1])) | (with_reducible apply callK_pure <;> first | (simp only [eras, era, eras_map]; first | with_reducible exact ha | with_reducible exact p1 | with_reducible exact hr | simpa using ha | simpa using p1 | simpa using hr) | (simp -implicitDefEqProofs [h1])))
  ·rw [if_neg h8] at hr
   have pp := w_Parse (txt (prgP p))
   rw [parse_print hb (by omega)] at pp
   have hs := w_Same p p
   rw [eqv_self] at hs
   generalize txt (prgP p) = t at *
   (refine Pure.of_code mix Tryd.call7 k_7 (by simp) (fun hB => ?_); (try simp at hB); (try simp -implicitDefEqProofs [c_tallystonelaw32_SyntaxNormal_7]))
   ((try simp at ha); (try simp at p1); (try simp at hr); (try simp at pp); (try simp at hs); (try simp -implicitDefEqProofs [h1]); repeat' first | ((with_reducible first | apply gdK_em | apply cdK_em | apply pickK_em) <;> (intro hc; have hc' := hc; (try simp at hc'); simp -implicitDefEqProofs [hc, hc', h1])) | (with_reducible apply callK_pure <;> first | (simp only [eras, era, eras_map]; first | with_reducible exact ha | with_reducible exact p1 | with_reducible exact hr | with_reducible exact pp | with_reducible exact hs | simpa using ha | simpa using p1 | simpa using hr | simpa using pp | simpa using hs) | (simp -implicitDefEqProofs [h1])))
 ·have he' : (e != 0) = true := by simpa using he
  (refine Pure.of_code mix Tryd.call7 k_7 (by simp) (fun hB => ?_); (try simp at hB); (try simp -implicitDefEqProofs [c_tallystonelaw32_SyntaxNormal_7]))
  ((try simp at ha); (try simp at p1); (try simp -implicitDefEqProofs [h1, he, he']); repeat' first | ((with_reducible first | apply gdK_em | apply cdK_em | apply pickK_em) <;> (intro hc; have hc' := hc; (try simp at hc'); simp -implicitDefEqProofs [hc, hc', h1, he, he'])) | (with_reducible apply callK_pure <;> first | (simp only [eras, era, eras_map]; first | with_reducible exact ha | with_reducible exact p1 | simpa using ha | simpa using p1) | (simp -implicitDefEqProofs [h1, he, he'])))
end Go.Proofs.YtoepkeppgfbplaaDoor
