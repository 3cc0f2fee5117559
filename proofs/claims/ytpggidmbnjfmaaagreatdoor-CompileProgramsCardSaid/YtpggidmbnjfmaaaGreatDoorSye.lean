/- Chapter 32: valid statements, rules and programs. -/
import Derived.Test.YtpggidmbnjfmaaaGreatDoorSyd
set_option linter.unusedSimpArgs false
set_option linter.unusedVariables false
set_option maxHeartbeats 4000000
set_option maxRecDepth 8000
namespace Go.Proofs.YtpggidmbnjfmaaaGreatDoor
open E

def shdB (k a : Int) (n : List UInt8) : Bool :=
 if k = 1 then nameB n && (a == 0) else if k = 2 then n.isEmpty && (a == 0) else if k = 3 then n.isEmpty && acB a else false
def stmB (s : Stm) : Bool := shdB s.kind s.acc s.name && decide (s.ex.dep ≤ 30) && s.ex.prop
def rulB (r : Rul) : Bool := nameB r.name && decide (r.stmts.length ≤ 30) && acB r.to && r.stmts.all stmB
def prgB (p : List Rul) : Bool := p.all rulB && decide (p.length ≤ 40)

theorem w_stmt (s : Stm) (hc : s.ex.cnt ≤ 100000) : Pure Tryz.prog 65 [s.v] (vB (stmB s)) := by
 obtain ⟨k, a, n, x⟩ := s
 simp only [] at hc
 have hn := w_named n
 have ha := w_ac a
 have hd := w_Depth x hc
 have hp := w_proper x
 have hlc := len_c x
 have htc := take_c x
 generalize hR : vB (stmB ⟨k, a, n, x⟩) = R
 unfold stmB shdB at hR
 simp only [] at hR
 generalize x.dep = d at *
 generalize x.prop = pb at *
 generalize nameB n = nb at *
 generalize acB a = ab at *
 rw [Stm.v, Stm.c]
 simp only []
 have hcases : k = 1 ∨ k = 2 ∨ k = 3 ∨ ((k == 1) = false ∧ (k == 2) = false ∧ (k == 3) = false) := by
  simp only [beq_eq_false_iff_ne, ne_eq]; omega
 rcases hcases with rfl | rfl | rfl | ⟨n1, n2, n3⟩
 ·(refine Pure.of_code mix Tryz.call65 k_65 (by simp) (fun hB => ?_); (try simp at hB); (try simp -implicitDefEqProofs [qc_65]))
  ((try simp at hn); (try simp at ha); (try simp at hd); (try simp at hp); (try simp -implicitDefEqProofs [hlc, htc]); repeat' first | ((with_reducible first | apply gdK_em | apply cdK_em | apply pickK_em) <;> (intro hc; have hc' := hc; (try simp at hc'); simp -implicitDefEqProofs [hc, hc', hlc, htc])) | (with_reducible apply callK_pure <;> first | (simp only [eras, era, eras_map]; first | with_reducible exact hn | with_reducible exact ha | with_reducible exact hd | with_reducible exact hp | simpa using hn | simpa using ha | simpa using hd | simpa using hp) | (simp -implicitDefEqProofs [hlc, htc])))
  all_goals (subst hR; simp_all <;> (intros; omega))
 ·(refine Pure.of_code mix Tryz.call65 k_65 (by simp) (fun hB => ?_); (try simp at hB); (try simp -implicitDefEqProofs [qc_65]))
  ((try simp at hn); (try simp at ha); (try simp at hd); (try simp at hp); (try simp -implicitDefEqProofs [hlc, htc]); repeat' first | ((with_reducible first | apply gdK_em | apply cdK_em | apply pickK_em) <;> (intro hc; have hc' := hc; (try simp at hc'); simp -implicitDefEqProofs [hc, hc', hlc, htc])) | (with_reducible apply callK_pure <;> first | (simp only [eras, era, eras_map]; first | with_reducible exact hn | with_reducible exact ha | with_reducible exact hd | with_reducible exact hp | simpa using hn | simpa using ha | simpa using hd | simpa using hp) | (simp -implicitDefEqProofs [hlc, htc])))
  all_goals (subst hR; simp_all <;> (intros; omega))
 ·(refine Pure.of_code mix Tryz.call65 k_65 (by simp) (fun hB => ?_); (try simp at hB); (try simp -implicitDefEqProofs [qc_65]))
  ((try simp at hn); (try simp at ha); (try simp at hd); (try simp at hp); (try simp -implicitDefEqProofs [hlc, htc]); repeat' first | ((with_reducible first | apply gdK_em | apply cdK_em | apply pickK_em) <;> (intro hc; have hc' := hc; (try simp at hc'); simp -implicitDefEqProofs [hc, hc', hlc, htc])) | (with_reducible apply callK_pure <;> first | (simp only [eras, era, eras_map]; first | with_reducible exact hn | with_reducible exact ha | with_reducible exact hd | with_reducible exact hp | simpa using hn | simpa using ha | simpa using hd | simpa using hp) | (simp -implicitDefEqProofs [hlc, htc])))
  all_goals (subst hR; simp_all <;> (intros; omega))
 ·(refine Pure.of_code mix Tryz.call65 k_65 (by simp) (fun hB => ?_); (try simp at hB); (try simp -implicitDefEqProofs [qc_65]))
  ((try simp at hn); (try simp at ha); (try simp at hd); (try simp at hp); (try simp -implicitDefEqProofs [hlc, htc, n1, n2, n3]); repeat' first | (with_reducible apply callK_pure <;> first | (simp only [eras, era, eras_map]; first | with_reducible exact hn | with_reducible exact ha | with_reducible exact hd | with_reducible exact hp | simpa using hn | simpa using ha | simpa using hd | simpa using hp) | (simp -implicitDefEqProofs [hlc, htc, n1, n2, n3])))
  all_goals (subst hR; simp_all <;> (intros; omega))
theorem w_stmt1 (s : Stm) (hc : s.ex.cnt ≤ 100000) : Pure Tryz.prog 64 [s.v] (vB (!stmB s)) := by
 have h := w_stmt s hc
 generalize stmB s = b at *
 have hlc := len_sc s
 have htc := take_sc s
 (refine Pure.of_code mix Tryz.call64 k_64 (by simp) (fun hB => ?_); (try simp at hB); (try simp -implicitDefEqProofs [qc_64]))
 ((try simp at h); (try simp -implicitDefEqProofs [hlc, htc]); repeat' first | (with_reducible apply callK_pure <;> first | (simp only [eras, era, eras_map]; first | with_reducible exact h | simpa using h) | (simp -implicitDefEqProofs [hlc, htc])))
theorem w_Valid (p : List Rul) (hc : ∀ r ∈ p, ∀ s ∈ r.stmts, s.ex.cnt ≤ 100000) : Pure Tryz.prog 29 [Rul.l p] (vB (prgB p)) := by
 generalize hR : vB (prgB p) = R
 unfold prgB at hR
 (refine Pure.of_code mix Tryz.call29 k_29 (by simp) (fun hB => ?_); (try simp at hB); (try simp -implicitDefEqProofs [qc_29]))
 refine loop_rule (X := Nat) (fun k => k ≤ p.length ∧ ∀ y ∈ p.take k, rulB y = true) (fun k => [(0, Rul.l p), (5, Rul.l p), (6, vI p.length), (7, vI k)]) (fun _ => St0) (fun k => p.length - k) 0 ⟨by simp, by simp⟩ (by simp) ?_
 rintro k ⟨hk, hn⟩ hbd
 rcases Nat.lt_or_ge k p.length with h | h
 ·have hx : p[k]? = some p[k] := by simp [h]
  have e3 : IntKind.i64.wrap ((k : Int) + 1) = (k : Int) + 1 := wrap64 (by omega) (by simp [maxLen] at hB; omega)
  have hlc := len_rc p[k]
  have htc := take_rc p[k]
  have hcs := hc p[k] (List.getElem_mem h)
  have hstep : rulB p[k] = true → ∃ z' : Nat, (z' ≤ p.length ∧ ∀ y ∈ p.take z', rulB y = true) ∧ p.length - z' < p.length - k ∧ (z' : Int) = (k : Int) + 1 := by
   intro hr
   refine ⟨k + 1, ⟨by omega, fun y hy => ?_⟩, by omega, by push_cast; rfl⟩
   rw [take_next hx] at hy
   rcases List.mem_append.1 hy with h1 | h1
   ·exact hn y h1
   ·simp at h1; subst h1; exact hr
  have hout : rulB p[k] = false → p.all rulB = false := by
   intro hr
   rw [List.all_eq_false]
   exact ⟨p[k], List.getElem_mem h, by simp [hr]⟩
  have hrul : rulB p[k] = (nameB p[k].name && decide (p[k].stmts.length ≤ 30) && acB p[k].to && p[k].stmts.all stmB) := rfl
  have hcc : p[k].c = [.str p[k].name, .bool p[k].pair, .sl (p[k].stmts.map Stm.c), .int .i64 p[k].to] := rfl
  generalize hrk : p[k] = r at *
  obtain ⟨nm, pr, ss, to⟩ := r
  simp only [] at *
  have h1 := w_named nm
  have h2 := w_ac to
  have h3 : Pure Tryz.prog 63 [Stm.l ss, .fn (.func 64) []] (vB (ss.any fun s => !stmB s)) :=
   w_ConS St0 okS0 ss 64 [] rfl (fun s => !stmB s) (fun s hs => w_stmt1 s (hcs s hs))
  have hall : ss.all stmB = !(ss.any fun s => !stmB s) := by simp [List.all_eq_not_any_not]
  rw [hall] at hrul
  generalize (ss.any fun s => !stmB s) = an at *
  generalize nameB nm = nb at *
  generalize acB to = ab at *
  by_cases h30 : ss.length ≤ 30
  ·have h30' : decide ((30 : Int) < ss.length) = false := by simp; omega
   rw [decide_eq_true h30] at hrul
   cases nb
   ·rw [hout (by rw [hrul]; rfl), Bool.false_and] at hR
    subst hR
    ((try simp at h1); (try simp at h2); (try simp at h3); (try simp -implicitDefEqProofs [h, hrk, hcc, h30', e3, hlc, htc]); repeat' first | (with_reducible apply callK_pure <;> first | (simp only [eras, era, eras_map]; first | with_reducible exact h1 | with_reducible exact h2 | with_reducible exact h3 | simpa using h1 | simpa using h2 | simpa using h3) | (simp -implicitDefEqProofs [h, hrk, hcc, h30', e3, hlc, htc])))
   ·cases ab
    ·rw [hout (by rw [hrul]; rfl), Bool.false_and] at hR
     subst hR
     ((try simp at h1); (try simp at h2); (try simp at h3); (try simp -implicitDefEqProofs [h, hrk, hcc, h30', e3, hlc, htc]); repeat' first | (with_reducible apply callK_pure <;> first | (simp only [eras, era, eras_map]; first | with_reducible exact h1 | with_reducible exact h2 | with_reducible exact h3 | simpa using h1 | simpa using h2 | simpa using h3) | (simp -implicitDefEqProofs [h, hrk, hcc, h30', e3, hlc, htc])))
    ·cases an
     ·have hst := hstep (by rw [hrul]; rfl)
      ((try simp at h1); (try simp at h2); (try simp at h3); (try simp -implicitDefEqProofs [h, hrk, hcc, h30', e3, hlc, htc]); repeat' first | (with_reducible apply callK_pure <;> first | (simp only [eras, era, eras_map]; first | with_reducible exact h1 | with_reducible exact h2 | with_reducible exact h3 | simpa using h1 | simpa using h2 | simpa using h3) | (simp -implicitDefEqProofs [h, hrk, hcc, h30', e3, hlc, htc])))
      exact hst
     ·rw [hout (by rw [hrul]; rfl), Bool.false_and] at hR
      subst hR
      ((try simp at h1); (try simp at h2); (try simp at h3); (try simp -implicitDefEqProofs [h, hrk, hcc, h30', e3, hlc, htc]); repeat' first | (with_reducible apply callK_pure <;> first | (simp only [eras, era, eras_map]; first | with_reducible exact h1 | with_reducible exact h2 | with_reducible exact h3 | simpa using h1 | simpa using h2 | simpa using h3) | (simp -implicitDefEqProofs [h, hrk, hcc, h30', e3, hlc, htc])))
  ·have h30' : decide ((30 : Int) < ss.length) = true := by simp; omega
   rw [decide_eq_false h30] at hrul
   simp only [Bool.and_false, Bool.false_and] at hrul
   have hR2 := hR
   rw [hout hrul, Bool.false_and] at hR2
   subst hR2
   cases nb
   ·((try simp at h1); (try simp at h2); (try simp at h3); (try simp -implicitDefEqProofs [h, hrk, hcc, h30', e3, hlc, htc]); repeat' first | (with_reducible apply callK_pure <;> first | (simp only [eras, era, eras_map]; first | with_reducible exact h1 | with_reducible exact h2 | with_reducible exact h3 | simpa using h1 | simpa using h2 | simpa using h3) | (simp -implicitDefEqProofs [h, hrk, hcc, h30', e3, hlc, htc])))
   ·((try simp at h1); (try simp at h2); (try simp at h3); (try simp -implicitDefEqProofs [h, hrk, hcc, h30', e3, hlc, htc]); repeat' first | (with_reducible apply callK_pure <;> first | (simp only [eras, era, eras_map]; first | with_reducible exact h1 | with_reducible exact h2 | with_reducible exact h3 | simpa using h1 | simpa using h2 | simpa using h3) | (simp -implicitDefEqProofs [h, hrk, hcc, h30', e3, hlc, htc])))
 ·have : k = p.length := by omega
  subst this
  rw [List.take_length] at hn
  have hall : p.all rulB = true := List.all_eq_true.2 hn
  rw [hall, Bool.true_and] at hR
  subst hR
  (try simp -implicitDefEqProofs)
  omega
end Go.Proofs.YtpggidmbnjfmaaaGreatDoor
