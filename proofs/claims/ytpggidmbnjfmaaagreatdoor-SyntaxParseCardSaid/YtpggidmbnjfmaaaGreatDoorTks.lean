/- Chapter 31: token.Tokens. -/
import Derived.Test.YtpggidmbnjfmaaaGreatDoorIdx
set_option linter.unusedSimpArgs false
set_option linter.unusedVariables false
set_option maxHeartbeats 2000000
set_option maxRecDepth 8000
namespace Go.Proofs.YtpggidmbnjfmaaaGreatDoor
open E

def toksR : Nat → List UInt8 → Nat → List Tok → List Tok × Nat × Int
 | 0, _, _, _ => ([], 0, 0)
 | f + 1, s, p, acc =>
  let p1 := p + skR (s.drop p) false
  if p1 = s.length then (acc, 0, 0) else
  let kn := nextR (s.drop p1)
  if kn.1 = 0 then ([], p1, 3) else
  let tx := (s.take (p1 + kn.2)).drop p1
  if (kn.1 = 1 ∧ 16 < kn.2) ∨ (kn.1 = 2 ∧ (valR kn.1 tx).2 = false) then ([], p1, 6) else
  toksR f s (p1 + kn.2) (acc ++ [⟨kn.1, tx, p1⟩])
def tokensR (s : List UInt8) : List Tok × Nat × Int := if 8000 < s.length then ([], 8000, 6) else toksR (s.length + 1) s 0 []
theorem w_Tokens (s : List UInt8) : Pure Tryz.prog 26 [vS s] (.tup [Tok.l (tokensR s).1, vI (tokensR s).2.1, vI (tokensR s).2.2]) := by
 have hR := rfl (a := tokensR s)
 conv at hR => lhs; unfold tokensR
 generalize tokensR s = R at *
 by_cases hl : 8000 < s.length
 ·rw [if_pos hl] at hR
  subst hR
  have hl1 : decide ((8000 : Int) < s.length) = true := by simp; omega
  (refine Pure.of_code mix Tryz.call26 k_26 (by simp) (fun hB => ?_); (try simp at hB); (try simp -implicitDefEqProofs [qc_26]))
  (try simp -implicitDefEqProofs [hl1])
 rw [if_neg hl] at hR
 have hl1 : decide ((8000 : Int) < s.length) = false := by simp; omega
 (refine Pure.of_code mix Tryz.call26 k_26 (by simp) (fun hB => ?_); (try simp at hB); (try simp -implicitDefEqProofs [qc_26]))
 (try simp -implicitDefEqProofs [hl1])
 refine loop_grow [(.slot 2, 144, 3)] (X := Nat × Nat × List Tok) (fun X => X.2.1 ≤ s.length ∧ s.length - X.2.1 < X.1 ∧ toksR X.1 s X.2.1 X.2.2 = R ∧ X.2.2.length ≤ X.2.1) (fun X => [(0, vS s), (2, .own 0 144 3 (X.2.2.map Tok.c)), (3, vI X.2.1)]) (fun X => ⟨[], [X.2.2.length]⟩) (fun X => X.1) (s.length + 1, 0, []) ⟨by simp, by simp, hR, by simp⟩ (by simp) ?_
 rintro ⟨f, p, acc⟩ ⟨hp, hf, ht, ha⟩ hbd
 simp only [] at hp hf ht ha
 clear hbd
 obtain _ | f := f
 ·omega
 rw [toksR] at ht
 have hb := w_blank (s.drop p) (by simp; omega)
 have hsk := skR_le (s.drop p) false
 rw [List.length_drop] at hsk
 generalize hq : skR (s.drop p) false = q at *
 by_cases hend : p + q = s.length
 ·rw [if_pos hend] at ht
  subst ht
  have hend' : ((p : Int) + q == s.length) = true := by simp; omega
  have e1 : IntKind.i64.wrap ((p : Int) + q) = p + q := wrap64 (by omega) (by omega)
  ((try simp at hb); (try simp -implicitDefEqProofs [hp, hend', e1]); repeat' first | (with_reducible apply callK_pure <;> first | (simp only [eras, era, eras_map]; first | with_reducible exact hb | simpa using hb) | (simp -implicitDefEqProofs [hp, hend', e1])))
 rw [if_neg hend] at ht
 have hq1 : p + q < s.length := by omega
 have hnx := w_next (s.drop (p + q)) (by simp; omega) (by simp; omega)
 have hle := nextR_le (s.drop (p + q)) (by simp; omega)
 have hpos := nextR_pos (s.drop (p + q)) (by simp; omega)
 rw [List.length_drop] at hle
 generalize hkn : nextR (s.drop (p + q)) = kn at *
 obtain ⟨k, n⟩ := kn
 simp only [] at ht hnx hle hpos
 have hval := w_Value k ((s.take (p + q + n)).drop (p + q)) ((p : Int) + q) (by simp; omega)
 generalize htx : (s.take (p + q + n)).drop (p + q) = tx at *
 generalize hvr : valR k tx = vv at *
 obtain ⟨vn, ok⟩ := vv
 simp only [] at ht hval
 have hend' : ((p : Int) + q == s.length) = false := by simp; omega
 have e1 : IntKind.i64.wrap ((p : Int) + q) = p + q := wrap64 (by omega) (by omega)
 have e2 : IntKind.i64.wrap ((p : Int) + q + n) = p + q + n := wrap64 (by omega) (by omega)
 have t1 : ((p : Int) + (q : Int)).toNat = p + q := by omega
 have t2 : ((p : Int) + (q : Int) + (n : Int)).toNat = p + q + n := by omega
 have g1 : (0 : Int) ≤ (p : Int) + q := by omega
 have g2 : (p : Int) + q ≤ s.length := by omega
 have g3 : (p : Int) + q + n ≤ s.length := by omega
 have g4 : (p : Int) + q ≤ (p : Int) + q + n := by omega
 by_cases hk0 : k = 0
 ·rw [if_pos hk0] at ht
  subst ht
  subst hk0
  ((try simp at hb); (try simp at hnx); (try simp at hval); (try simp -implicitDefEqProofs [hp, hend', e1, e2, t1, t2, htx, g1, g2, g3, g4]); repeat' first | (with_reducible apply callK_pure <;> first | (simp only [eras, era, eras_map]; first | with_reducible exact hb | with_reducible exact hnx | with_reducible exact hval | simpa using hb | simpa using hnx | simpa using hval) | (simp -implicitDefEqProofs [hp, hend', e1, e2, t1, t2, htx, g1, g2, g3, g4])))
 rw [if_neg hk0] at ht
 have hk0' : (k == 0) = false := by simpa using hk0
 by_cases hbad : (k = 1 ∧ 16 < n) ∨ (k = 2 ∧ ok = false)
 ·rw [if_pos hbad] at ht
  subst ht
  rcases hbad with ⟨rfl, h16⟩ | ⟨rfl, rfl⟩
  ·have h16' : decide ((16 : Int) < n) = true := by simp; omega
   ((try simp at hb); (try simp at hnx); (try simp at hval); (try simp -implicitDefEqProofs [hp, hend', e1, e2, t1, t2, htx, g1, g2, g3, g4, h16']); repeat' first | (with_reducible apply callK_pure <;> first | (simp only [eras, era, eras_map]; first | with_reducible exact hb | with_reducible exact hnx | with_reducible exact hval | simpa using hb | simpa using hnx | simpa using hval) | (simp -implicitDefEqProofs [hp, hend', e1, e2, t1, t2, htx, g1, g2, g3, g4, h16'])))
  ·((try simp at hb); (try simp at hnx); (try simp at hval); (try simp -implicitDefEqProofs [hp, hend', e1, e2, t1, t2, htx, g1, g2, g3, g4]); repeat' first | (with_reducible apply callK_pure <;> first | (simp only [eras, era, eras_map]; first | with_reducible exact hb | with_reducible exact hnx | with_reducible exact hval | simpa using hb | simpa using hnx | simpa using hval) | (simp -implicitDefEqProofs [hp, hend', e1, e2, t1, t2, htx, g1, g2, g3, g4])))
 rw [if_neg hbad] at ht
 have hfin := ht
 by_cases hk1 : k = 1
 ·have h16 : decide ((16 : Int) < n) = false := by simp; omega
  subst hk1
  ((try simp at hb); (try simp at hnx); (try simp at hval); (try simp -implicitDefEqProofs [hp, hend', e1, e2, t1, t2, htx, g1, g2, g3, g4, h16]); repeat' first | (with_reducible apply callK_pure <;> first | (simp only [eras, era, eras_map]; first | with_reducible exact hb | with_reducible exact hnx | with_reducible exact hval | simpa using hb | simpa using hnx | simpa using hval) | (simp -implicitDefEqProofs [hp, hend', e1, e2, t1, t2, htx, g1, g2, g3, g4, h16])))
  exact ⟨⟨by simp [maxLen]; omega, by omega⟩, f, p + q + n, acc ++ [⟨1, tx, (p + q : Nat)⟩], ⟨by omega, by omega, hfin, by simp; omega⟩, by omega, by simp, by simp [Tok.c, leA], by push_cast; rfl⟩
 have hk1' : (k == 1) = false := by simpa using hk1
 by_cases hk2 : k = 2
 ·have : ok = true := by simp_all
  subst this
  subst hk2
  ((try simp at hb); (try simp at hnx); (try simp at hval); (try simp -implicitDefEqProofs [hp, hend', e1, e2, t1, t2, htx, g1, g2, g3, g4]); repeat' first | (with_reducible apply callK_pure <;> first | (simp only [eras, era, eras_map]; first | with_reducible exact hb | with_reducible exact hnx | with_reducible exact hval | simpa using hb | simpa using hnx | simpa using hval) | (simp -implicitDefEqProofs [hp, hend', e1, e2, t1, t2, htx, g1, g2, g3, g4])))
  exact ⟨⟨by simp [maxLen]; omega, by omega⟩, f, p + q + n, acc ++ [⟨2, tx, (p + q : Nat)⟩], ⟨by omega, by omega, hfin, by simp; omega⟩, by omega, by simp, by simp [Tok.c, leA], by push_cast; rfl⟩
 have hk2' : (k == 2) = false := by simpa using hk2
 ((try simp at hb); (try simp at hnx); (try simp at hval); (try simp -implicitDefEqProofs [hp, hend', e1, e2, t1, t2, htx, g1, g2, g3, g4, hk0', hk1', hk2']); repeat' first | (with_reducible apply callK_pure <;> first | (simp only [eras, era, eras_map]; first | with_reducible exact hb | with_reducible exact hnx | with_reducible exact hval | simpa using hb | simpa using hnx | simpa using hval) | (simp -implicitDefEqProofs [hp, hend', e1, e2, t1, t2, htx, g1, g2, g3, g4, hk0', hk1', hk2'])))
 exact ⟨⟨by simp [maxLen]; omega, by omega⟩, f, p + q + n, acc ++ [⟨k, tx, (p + q : Nat)⟩], ⟨by omega, by omega, hfin, by simp; omega⟩, by omega, by simp, by simp [Tok.c, leA], by push_cast; rfl⟩
end Go.Proofs.YtpggidmbnjfmaaaGreatDoor
