/- The reference of chapter 31: Tokens. -/
import Derived.Test.YtpggidmbnjfmaaaGreatDoorRt1
import Derived.Test.YtpggidmbnjfmaaaGreatDoorCodeD
set_option linter.unusedSimpArgs false
set_option linter.unusedVariables false
set_option maxHeartbeats 4000000
set_option maxRecDepth 8000
namespace Go.Proofs.YtpggidmbnjfmaaaGreatDoor
open E

structure TX where
 f : Nat
 p : Nat
 q : Nat
 acc : List Tok
theorem w_rTokens (s : List UInt8) : Pure Tryz.prog 30 [vS s] (.tup [Tok.l (tokensR s).1, vI (tokensR s).2.1, vI (tokensR s).2.2]) := by
 have hR := rfl (a := tokensR s)
 conv at hR => lhs; unfold tokensR
 generalize tokensR s = R at *
 by_cases hl : 8000 < s.length
 ·rw [if_pos hl] at hR
  subst hR
  have hl1 : decide ((8000 : Int) < s.length) = true := by simp; omega
  (refine Pure.of_code mix Tryz.call30 k_30 (by simp) (fun hB => ?_); (try simp at hB); (try simp -implicitDefEqProofs [qc_30]))
  ((try simp -implicitDefEqProofs [hl1]); repeat' first | ((with_reducible first | apply gdK_em | apply cdK_em | apply pickK_em) <;> (intro hc; have hc' := hc; (try simp at hc'); simp -implicitDefEqProofs [hc, hc', hl1])))
 rw [if_neg hl] at hR
 have hl1 : decide ((8000 : Int) < s.length) = false := by simp; omega
 have hs0 := w_Skip s (by omega) 0 (by omega)
 have hz0 := skR_le s false
 generalize hq0 : 0 + skR (s.drop 0) false = q0 at *
 have hq1 : q0 ≤ s.length := by rw [← hq0, List.drop_zero]; omega
 have hs0' : Pure Tryz.prog 66 [vS s, vI 0] (vI q0) := hs0
 (refine Pure.of_code mix Tryz.call30 k_30 (by simp) (fun hB => ?_); (try simp at hB); (try simp -implicitDefEqProofs [qc_30]))
 ((try simp at hs0'); (try simp -implicitDefEqProofs [hl1]); repeat' first | ((with_reducible first | apply gdK_em | apply cdK_em | apply pickK_em) <;> (intro hc; have hc' := hc; (try simp at hc'); simp -implicitDefEqProofs [hc, hc', hl1])) | (with_reducible apply callK_pure <;> first | (simp only [eras, era, eras_map]; first | with_reducible exact hs0' | simpa using hs0') | (simp -implicitDefEqProofs [hl1])))
 refine loop_grow [(.slot 5, 100, 3)] (X := TX) (fun X => X.p ≤ s.length ∧ X.q ≤ s.length ∧ X.p + skR (s.drop X.p) false = X.q ∧ s.length - X.p < X.f ∧ toksR X.f s X.p X.acc = R ∧ X.acc.length ≤ X.p) (fun X => [(0, vS s), (5, .own 0 100 3 (X.acc.map Tok.c)), (6, vI X.q)]) (fun X => ⟨[], [X.acc.length]⟩) (fun X => X.f) ⟨s.length + 1, 0, q0, []⟩ ⟨by simp, hq1, hq0, by simp, hR, by simp⟩ (by simp) ?_
 rintro ⟨f, p, q, acc⟩ ⟨hp, hql, hpq, hf, ht, ha⟩ hbd
 simp only [] at hp hql hpq hf ht ha
 clear hbd
 obtain _ | f := f
 ·omega
 rw [toksR] at ht
 simp only [hpq] at ht
 by_cases hend : q = s.length
 ·rw [if_pos hend] at ht
  subst ht
  have hend' : decide ((q : Int) < s.length) = false := by simp; omega
  subst hend
  ((try simp -implicitDefEqProofs); repeat' first | ((with_reducible first | apply gdK_em | apply cdK_em | apply pickK_em) <;> (intro hc; have hc' := hc; (try simp at hc'); simp -implicitDefEqProofs [hc, hc'])))
 rw [if_neg hend] at ht
 have hq2 : q < s.length := by omega
 have hnx := w_rnext s (by omega) q hq2
 unfold rtk at hnx
 have hle := nextR_le (s.drop q) (by simp; omega)
 have hpos := nextR_pos (s.drop q) (by simp; omega)
 rw [List.length_drop] at hle
 generalize hkn : nextR (s.drop q) = kn at *
 obtain ⟨k, n⟩ := kn
 simp only [] at ht hnx hle hpos
 by_cases hk0 : k = 0
 ·rw [if_pos hk0] at ht hnx
  subst ht
  ((try simp at hnx); (try simp -implicitDefEqProofs [hq2]); repeat' first | ((with_reducible first | apply gdK_em | apply cdK_em | apply pickK_em) <;> (intro hc; have hc' := hc; (try simp at hc'); simp -implicitDefEqProofs [hc, hc', hq2])) | (with_reducible apply callK_pure <;> first | (simp only [eras, era, eras_map]; first | with_reducible exact hnx | simpa using hnx) | (simp -implicitDefEqProofs [hq2])))
 rw [if_neg hk0] at ht hnx
 have hk0' : (k == 0) = false := by simpa using hk0
 have hp1 := hpos hk0
 have hval := w_rValue k ((s.take (q + n)).drop q) (q : Int) (by simp; omega)
 have htl : ((s.take (q + n)).drop q).length = n := by simp; omega
 generalize htx : (s.take (q + n)).drop q = tx at *
 generalize hvr : valR k tx = vv at *
 obtain ⟨vn, ok⟩ := vv
 simp only [] at ht hval
 have e2 : IntKind.i64.wrap ((q : Int) + n) = ((q + n : Nat) : Int) := by rw [wrap64 (by omega) (by omega)]; push_cast; rfl
 by_cases hbad : (k = 1 ∧ 16 < n) ∨ (k = 2 ∧ ok = false)
 ·rw [if_pos hbad] at ht
  subst ht
  rcases hbad with ⟨rfl, h16⟩ | ⟨rfl, rfl⟩
  ·have h16' : decide ((16 : Int) < n) = true := by simp; omega
   ((try simp at hnx); (try simp at hval); (try simp -implicitDefEqProofs [hq2, htl, h16']); repeat' first | ((with_reducible first | apply gdK_em | apply cdK_em | apply pickK_em) <;> (intro hc; have hc' := hc; (try simp at hc'); simp -implicitDefEqProofs [hc, hc', hq2, htl, h16'])) | (with_reducible apply callK_pure <;> first | (simp only [eras, era, eras_map]; first | with_reducible exact hnx | with_reducible exact hval | simpa using hnx | simpa using hval) | (simp -implicitDefEqProofs [hq2, htl, h16'])))
  ·((try simp at hnx); (try simp at hval); (try simp -implicitDefEqProofs [hq2, htl]); repeat' first | ((with_reducible first | apply gdK_em | apply cdK_em | apply pickK_em) <;> (intro hc; have hc' := hc; (try simp at hc'); simp -implicitDefEqProofs [hc, hc', hq2, htl])) | (with_reducible apply callK_pure <;> first | (simp only [eras, era, eras_map]; first | with_reducible exact hnx | with_reducible exact hval | simpa using hnx | simpa using hval) | (simp -implicitDefEqProofs [hq2, htl])))
 rw [if_neg hbad] at ht
 have hsk := w_Skip s (by omega) (q + n) (by omega)
 have hsl := skR_le (s.drop (q + n)) false
 rw [List.length_drop] at hsl
 generalize hq3 : q + n + skR (s.drop (q + n)) false = q3 at *
 have hfin : ∀ tk : Tok, tk = ⟨k, tx, (q : Int)⟩ → (q + n ≤ s.length ∧ q3 ≤ s.length ∧ q + n + skR (s.drop (q + n)) false = q3 ∧ s.length - (q + n) < f ∧ toksR f s (q + n) (acc ++ [tk]) = R ∧ (acc ++ [tk]).length ≤ q + n) := by
  rintro tk rfl
  exact ⟨by omega, by omega, hq3, by omega, ht, by simp; omega⟩
 by_cases hk1 : k = 1
 ·have h16 : decide ((16 : Int) < n) = false := by simp; omega
  subst hk1
  ((try simp at hnx); (try simp at hval); (try simp at hsk); (try simp -implicitDefEqProofs [hq2, htl, e2, h16]); repeat' first | ((with_reducible first | apply gdK_em | apply cdK_em | apply pickK_em) <;> (intro hc; have hc' := hc; (try simp at hc'); simp -implicitDefEqProofs [hc, hc', hq2, htl, e2, h16])) | (with_reducible apply callK_pure <;> first | (simp only [eras, era, eras_map]; first | with_reducible exact hnx | with_reducible exact hval | with_reducible exact hsk | simpa using hnx | simpa using hval | simpa using hsk) | (simp -implicitDefEqProofs [hq2, htl, e2, h16])))
  refine ⟨⟨by simp [maxLen]; omega, by omega⟩, ?_⟩
  ((try simp at hsk); (try simp -implicitDefEqProofs); repeat' first | ((with_reducible first | apply gdK_em | apply cdK_em | apply pickK_em) <;> (intro hc; have hc' := hc; (try simp at hc'); simp -implicitDefEqProofs [hc, hc'])) | (with_reducible apply callK_pure <;> first | (simp only [eras, era, eras_map]; first | with_reducible exact hsk | simpa using hsk) | (simp -implicitDefEqProofs)))
  exact ⟨⟨f, q + n, q3, acc ++ [⟨1, tx, (q : Int)⟩]⟩, hfin _ rfl, by simp, by simp, by simp [Tok.c, leA], rfl⟩
 have hk1' : (k == 1) = false := by simpa using hk1
 by_cases hk2 : k = 2
 ·have : ok = true := by simp_all
  subst this
  subst hk2
  ((try simp at hnx); (try simp at hval); (try simp at hsk); (try simp -implicitDefEqProofs [hq2, htl, e2]); repeat' first | ((with_reducible first | apply gdK_em | apply cdK_em | apply pickK_em) <;> (intro hc; have hc' := hc; (try simp at hc'); simp -implicitDefEqProofs [hc, hc', hq2, htl, e2])) | (with_reducible apply callK_pure <;> first | (simp only [eras, era, eras_map]; first | with_reducible exact hnx | with_reducible exact hval | with_reducible exact hsk | simpa using hnx | simpa using hval | simpa using hsk) | (simp -implicitDefEqProofs [hq2, htl, e2])))
  refine ⟨⟨by simp [maxLen]; omega, by omega⟩, ?_⟩
  ((try simp at hsk); (try simp -implicitDefEqProofs); repeat' first | ((with_reducible first | apply gdK_em | apply cdK_em | apply pickK_em) <;> (intro hc; have hc' := hc; (try simp at hc'); simp -implicitDefEqProofs [hc, hc'])) | (with_reducible apply callK_pure <;> first | (simp only [eras, era, eras_map]; first | with_reducible exact hsk | simpa using hsk) | (simp -implicitDefEqProofs)))
  exact ⟨⟨f, q + n, q3, acc ++ [⟨2, tx, (q : Int)⟩]⟩, hfin _ rfl, by simp, by simp, by simp [Tok.c, leA], rfl⟩
 have hk2' : (k == 2) = false := by simpa using hk2
 ((try simp at hnx); (try simp at hval); (try simp at hsk); (try simp -implicitDefEqProofs [hq2, htl, e2, hk0', hk1', hk2']); repeat' first | ((with_reducible first | apply gdK_em | apply cdK_em | apply pickK_em) <;> (intro hc; have hc' := hc; (try simp at hc'); simp -implicitDefEqProofs [hc, hc', hq2, htl, e2, hk0', hk1', hk2'])) | (with_reducible apply callK_pure <;> first | (simp only [eras, era, eras_map]; first | with_reducible exact hnx | with_reducible exact hval | with_reducible exact hsk | simpa using hnx | simpa using hval | simpa using hsk) | (simp -implicitDefEqProofs [hq2, htl, e2, hk0', hk1', hk2'])))
 refine ⟨⟨by simp [maxLen]; omega, by omega⟩, ?_⟩
 ((try simp at hsk); (try simp -implicitDefEqProofs); repeat' first | ((with_reducible first | apply gdK_em | apply cdK_em | apply pickK_em) <;> (intro hc; have hc' := hc; (try simp at hc'); simp -implicitDefEqProofs [hc, hc'])) | (with_reducible apply callK_pure <;> first | (simp only [eras, era, eras_map]; first | with_reducible exact hsk | simpa using hsk) | (simp -implicitDefEqProofs)))
 exact ⟨⟨f, q + n, q3, acc ++ [⟨k, tx, (q : Int)⟩]⟩, hfin _ rfl, by simp, by simp, by simp [Tok.c, leA], rfl⟩
end Go.Proofs.YtpggidmbnjfmaaaGreatDoor
