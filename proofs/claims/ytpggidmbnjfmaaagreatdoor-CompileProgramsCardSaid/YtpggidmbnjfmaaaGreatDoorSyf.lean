/- Chapter 32: the reference's Valid and Few. -/
import Derived.Test.YtpggidmbnjfmaaaGreatDoorSye
set_option linter.unusedSimpArgs false
set_option linter.unusedVariables false
set_option maxHeartbeats 4000000
set_option maxRecDepth 8000
namespace Go.Proofs.YtpggidmbnjfmaaaGreatDoor
open E

def Stm.ok (s : Stm) : Prop := s.name.length ≤ maxLen ∧ s.ex.ok
def Rul.ok (r : Rul) : Prop := r.name.length ≤ maxLen ∧ ∀ s ∈ r.stmts, s.ok
theorem nameB_nil : nameB [] = false := rfl
theorem shd_eq (k a : Int) (n : List UInt8) : shdB k a n = !(decide (k < 1) || decide (3 < k) || ((k == 1) != (n != [])) || ((k == 1) && !nameB n) || ((k == 3) && !acB a) || ((k != 3) && (a != 0))) := by
 unfold shdB
 by_cases h1 : k = 1
 ·subst h1
  cases n with
  | nil => rw [nameB_nil]; simp
  | cons c n => cases nameB (c :: n) <;> simp [bne]
 by_cases h2 : k = 2
 ·subst h2
  cases n with
  | nil => simp [bne]
  | cons c n => simp [bne]
 by_cases h3 : k = 3
 ·subst h3
  cases n with
  | nil => cases acB a <;> simp
  | cons c n => cases acB a <;> simp [bne]
 ·rw [if_neg h1, if_neg h2, if_neg h3]
  have : decide (k < 1) = true ∨ decide (3 < k) = true := by simp; omega
  rcases this with h | h <;> rw [h] <;> simp
theorem w_ValidR (p : List Rul) (hok : ∀ r ∈ p, r.ok) (hc : ∀ r ∈ p, ∀ s ∈ r.stmts, s.ex.cnt ≤ 100000) : Pure Tryz.prog 32 [Rul.l p] (vB (prgB p)) := by
 generalize hR : vB (prgB p) = R
 unfold prgB at hR
 (refine Pure.of_code mix Tryz.call32 k_32 (by simp) (fun hB => ?_); (try simp at hB); (try simp -implicitDefEqProofs [qc_32]))
 refine loop_rule (X := Nat) (fun k => k ≤ p.length ∧ ∀ y ∈ p.take k, rulB y = true) (fun k => [(0, Rul.l p), (3, vI k)]) (fun _ => St0) (fun k => p.length - k) 0 ⟨by simp, by simp⟩ (by simp) ?_
 rintro k ⟨hk, hn⟩ hbd
 rcases Nat.lt_or_ge k p.length with h | h
 ·have hx : p[k]? = some p[k] := by simp [h]
  have e3 : IntKind.i64.wrap ((k : Int) + 1) = (k : Int) + 1 := wrap64 (by omega) (by simp [maxLen] at hB; omega)
  have hlc := len_rc p[k]
  have htc := take_rc p[k]
  have hcs := hc p[k] (List.getElem_mem h)
  have hoks := hok p[k] (List.getElem_mem h)
  have hstep : rulB p[k] = true → ∃ z' : Nat, (z' ≤ p.length ∧ ∀ y ∈ p.take z', rulB y = true) ∧ p.length - z' < p.length - k ∧ (z' : Int) = (k : Int) + 1 := by
   intro hr
   refine ⟨k + 1, ⟨by omega, fun y hy => ?_⟩, by omega, by push_cast; rfl⟩
   rw [take_next hx] at hy
   rcases List.mem_append.1 hy with h1 | h1
   ·exact hn y h1
   ·simp at h1; subst h1; exact hr
  have hout : rulB p[k] = false → p.all rulB = false := by
   intro hr
   rw [List.all_eq_false]
   exact ⟨p[k], List.getElem_mem h, by simp [hr]⟩
  have hrul : rulB p[k] = (nameB p[k].name && decide (p[k].stmts.length ≤ 30) && acB p[k].to && p[k].stmts.all stmB) := rfl
  have hcc : p[k].c = [.str p[k].name, .bool p[k].pair, .sl (p[k].stmts.map Stm.c), .int .i64 p[k].to] := rfl
  have hpk : ∀ hlt : k < p.length, (p[k]'hlt) = p[k] := fun _ => rfl
  generalize hrk : p[k] = r at *
  obtain ⟨nm, pr, ss, to⟩ := r
  simp only [] at *
  have h1 := w_nameR nm hoks.1
  have h2 := w_acR to
  have hbn := nameB nm
  generalize hnbe : nameB nm = nb at *
  generalize habe : acB to = ab at *
  by_cases hhd : (nb && decide (ss.length ≤ 30) && ab) = true
  ·rw [hhd, Bool.true_and] at hrul
   rw [Bool.and_eq_true, Bool.and_eq_true] at hhd
   obtain ⟨⟨rfl, h30⟩, rfl⟩ := hhd
   have h30 := of_decide_eq_true h30
   have h30' : decide ((30 : Int) < ss.length) = false := by simp; omega
   ((try simp at h1); (try simp at h2); (try simp -implicitDefEqProofs [h, hrk, hcc, h30', e3, hlc, htc]); repeat' first | ((with_reducible first | apply gdK_em | apply cdK_em | apply pickK_em) <;> (intro hc; have hc' := hc; (try simp at hc'); simp -implicitDefEqProofs [hc, hc', h, hrk, hcc, h30', e3, hlc, htc])) | (with_reducible apply callK_pure <;> first | (simp only [eras, era, eras_map]; first | with_reducible exact h1 | with_reducible exact h2 | simpa using h1 | simpa using h2) | (simp -implicitDefEqProofs [h, hrk, hcc, h30', e3, hlc, htc])))
   refine loop_rule (X := Nat) (fun j => j ≤ ss.length ∧ ∀ y ∈ ss.take j, stmB y = true) (fun j => [(0, Rul.l p), (3, vI k), (4, vI j)]) (fun _ => St0) (fun j => ss.length - j) 0 ⟨by simp, by simp⟩ (by simp) ?_
   rintro j ⟨hj, hjn⟩ hbd2
   clear hbd2
   rcases Nat.lt_or_ge j ss.length with g | g
   ·have gx : ss[j]? = some ss[j] := by simp [g]
    have gl := len_sc ss[j]
    have gt := take_sc ss[j]
    have gc := hcs ss[j] (List.getElem_mem g)
    have go := hoks.2 ss[j] (List.getElem_mem g)
    have gb : ss.length ≤ 30 := h30
    have g3 : IntKind.i64.wrap ((j : Int) + 1) = (j : Int) + 1 := wrap64 (by omega) (by omega)
    have gstep : stmB ss[j] = true → ∃ z' : Nat, (z' ≤ ss.length ∧ ∀ y ∈ ss.take z', stmB y = true) ∧ ss.length - z' < ss.length - j ∧ (z' : Int) = (j : Int) + 1 := by
     intro hr
     refine ⟨j + 1, ⟨by omega, fun y hy => ?_⟩, by omega, by push_cast; rfl⟩
     rw [take_next gx] at hy
     rcases List.mem_append.1 hy with h1 | h1
     ·exact hjn y h1
     ·simp at h1; subst h1; exact hr
    have gout : stmB ss[j] = false → p.all rulB = false := by
     intro hr
     refine hout ?_
     rw [hrul, List.all_eq_false]
     exact ⟨ss[j], List.getElem_mem g, by simp [hr]⟩
    have gcc : ss[j].c = .int .i64 ss[j].kind :: .int .i64 ss[j].acc :: .str ss[j].name :: ss[j].ex.c := rfl
    have gd : stmB ss[j] = (shdB ss[j].kind ss[j].acc ss[j].name && decide (ss[j].ex.dep ≤ 30) && ss[j].ex.prop) := rfl
    generalize gsj : ss[j] = st at *
    obtain ⟨sk, sa, sn, sx⟩ := st
    simp only [] at *
    have gnl : sn.length ≤ maxLen := go.1
    have gxo : sx.ok := go.2
    have q1 := w_nameR sn gnl
    have q2 := w_acR sa
    have q3 := w_DepthR sx gc
    have q4 := w_properR sx gxo
    have ql := len_c sx
    have qt := take_c sx
    rw [shd_eq] at gd
    generalize nameB sn = snb at *
    generalize acB sa = sab at *
    generalize sx.dep = sd at *
    generalize sx.prop = sp at *
    have hcases : sk = 1 ∨ sk = 2 ∨ sk = 3 ∨ ((sk == 1) = false ∧ (sk == 2) = false ∧ (sk == 3) = false) := by
     simp only [beq_eq_false_iff_ne, ne_eq]; omega
    by_cases hs : stmB ⟨sk, sa, sn, sx⟩ = true
    ·have gst := gstep hs
     rw [gd] at hs
     rcases hcases with rfl | rfl | rfl | ⟨n1, n2, n3⟩
     ·((try simp at q1); (try simp at q2); (try simp at q3); (try simp at q4); (try simp -implicitDefEqProofs [h, hrk, hcc, g, gsj, gcc, gl, gt, ql, qt, e3, g3, hlc, htc]); repeat' first | ((with_reducible first | apply gdK_em | apply cdK_em | apply pickK_em) <;> (intro hc; have hc' := hc; (try simp at hc'); simp -implicitDefEqProofs [hc, hc', h, hrk, hcc, g, gsj, gcc, gl, gt, ql, qt, e3, g3, hlc, htc])) | (with_reducible apply callK_pure <;> first | (simp only [eras, era, eras_map]; first | with_reducible exact q1 | with_reducible exact q2 | with_reducible exact q3 | with_reducible exact q4 | simpa using q1 | simpa using q2 | simpa using q3 | simpa using q4) | (simp -implicitDefEqProofs [h, hrk, hcc, g, gsj, gcc, gl, gt, ql, qt, e3, g3, hlc, htc])))
      all_goals (first | exact gst | (exfalso; simp_all; done) | (exfalso; simp_all; omega))
     ·((try simp at q1); (try simp at q2); (try simp at q3); (try simp at q4); (try simp -implicitDefEqProofs [h, hrk, hcc, g, gsj, gcc, gl, gt, ql, qt, e3, g3, hlc, htc]); repeat' first | ((with_reducible first | apply gdK_em | apply cdK_em | apply pickK_em) <;> (intro hc; have hc' := hc; (try simp at hc'); simp -implicitDefEqProofs [hc, hc', h, hrk, hcc, g, gsj, gcc, gl, gt, ql, qt, e3, g3, hlc, htc])) | (with_reducible apply callK_pure <;> first | (simp only [eras, era, eras_map]; first | with_reducible exact q1 | with_reducible exact q2 | with_reducible exact q3 | with_reducible exact q4 | simpa using q1 | simpa using q2 | simpa using q3 | simpa using q4) | (simp -implicitDefEqProofs [h, hrk, hcc, g, gsj, gcc, gl, gt, ql, qt, e3, g3, hlc, htc])))
      all_goals (first | exact gst | (exfalso; simp_all; done) | (exfalso; simp_all; omega))
     ·((try simp at q1); (try simp at q2); (try simp at q3); (try simp at q4); (try simp -implicitDefEqProofs [h, hrk, hcc, g, gsj, gcc, gl, gt, ql, qt, e3, g3, hlc, htc]); repeat' first | ((with_reducible first | apply gdK_em | apply cdK_em | apply pickK_em) <;> (intro hc; have hc' := hc; (try simp at hc'); simp -implicitDefEqProofs [hc, hc', h, hrk, hcc, g, gsj, gcc, gl, gt, ql, qt, e3, g3, hlc, htc])) | (with_reducible apply callK_pure <;> first | (simp only [eras, era, eras_map]; first | with_reducible exact q1 | with_reducible exact q2 | with_reducible exact q3 | with_reducible exact q4 | simpa using q1 | simpa using q2 | simpa using q3 | simpa using q4) | (simp -implicitDefEqProofs [h, hrk, hcc, g, gsj, gcc, gl, gt, ql, qt, e3, g3, hlc, htc])))
      all_goals (first | exact gst | (exfalso; simp_all; done) | (exfalso; simp_all; omega))
     ·exfalso
      have : decide (sk < 1) = true ∨ decide (3 < sk) = true := by
       simp only [beq_eq_false_iff_ne, ne_eq] at n1 n2 n3
       simp; omega
      rcases this with e | e <;> (rw [e] at hs; simp at hs)
    ·have hs' : stmB ⟨sk, sa, sn, sx⟩ = false := by simpa using hs
     rw [gout hs', Bool.false_and] at hR
     subst hR
     rw [gd] at hs'
     rcases hcases with rfl | rfl | rfl | ⟨n1, n2, n3⟩
     ·((try simp at q1); (try simp at q2); (try simp at q3); (try simp at q4); (try simp -implicitDefEqProofs [h, hrk, hcc, g, gsj, gcc, gl, gt, ql, qt, e3, g3, hlc, htc]); repeat' first | ((with_reducible first | apply gdK_em | apply cdK_em | apply pickK_em) <;> (intro hc; have hc' := hc; (try simp at hc'); simp -implicitDefEqProofs [hc, hc', h, hrk, hcc, g, gsj, gcc, gl, gt, ql, qt, e3, g3, hlc, htc])) | (with_reducible apply callK_pure <;> first | (simp only [eras, era, eras_map]; first | with_reducible exact q1 | with_reducible exact q2 | with_reducible exact q3 | with_reducible exact q4 | simpa using q1 | simpa using q2 | simpa using q3 | simpa using q4) | (simp -implicitDefEqProofs [h, hrk, hcc, g, gsj, gcc, gl, gt, ql, qt, e3, g3, hlc, htc])))
      all_goals (first | (exfalso; simp_all; done) | (exfalso; simp_all; omega))
     ·((try simp at q1); (try simp at q2); (try simp at q3); (try simp at q4); (try simp -implicitDefEqProofs [h, hrk, hcc, g, gsj, gcc, gl, gt, ql, qt, e3, g3, hlc, htc]); repeat' first | ((with_reducible first | apply gdK_em | apply cdK_em | apply pickK_em) <;> (intro hc; have hc' := hc; (try simp at hc'); simp -implicitDefEqProofs [hc, hc', h, hrk, hcc, g, gsj, gcc, gl, gt, ql, qt, e3, g3, hlc, htc])) | (with_reducible apply callK_pure <;> first | (simp only [eras, era, eras_map]; first | with_reducible exact q1 | with_reducible exact q2 | with_reducible exact q3 | with_reducible exact q4 | simpa using q1 | simpa using q2 | simpa using q3 | simpa using q4) | (simp -implicitDefEqProofs [h, hrk, hcc, g, gsj, gcc, gl, gt, ql, qt, e3, g3, hlc, htc])))
      all_goals (first | (exfalso; simp_all; done) | (exfalso; simp_all; omega))
     ·((try simp at q1); (try simp at q2); (try simp at q3); (try simp at q4); (try simp -implicitDefEqProofs [h, hrk, hcc, g, gsj, gcc, gl, gt, ql, qt, e3, g3, hlc, htc]); repeat' first | ((with_reducible first | apply gdK_em | apply cdK_em | apply pickK_em) <;> (intro hc; have hc' := hc; (try simp at hc'); simp -implicitDefEqProofs [hc, hc', h, hrk, hcc, g, gsj, gcc, gl, gt, ql, qt, e3, g3, hlc, htc])) | (with_reducible apply callK_pure <;> first | (simp only [eras, era, eras_map]; first | with_reducible exact q1 | with_reducible exact q2 | with_reducible exact q3 | with_reducible exact q4 | simpa using q1 | simpa using q2 | simpa using q3 | simpa using q4) | (simp -implicitDefEqProofs [h, hrk, hcc, g, gsj, gcc, gl, gt, ql, qt, e3, g3, hlc, htc])))
      all_goals (first | (exfalso; simp_all; done) | (exfalso; simp_all; omega))
     ·((try simp at q1); (try simp at q2); (try simp at q3); (try simp at q4); (try simp -implicitDefEqProofs [h, hrk, hcc, g, gsj, gcc, gl, gt, ql, qt, e3, g3, hlc, htc, n1, n2, n3]); repeat' first | ((with_reducible first | apply gdK_em | apply cdK_em | apply pickK_em) <;> (intro hc; have hc' := hc; (try simp at hc'); simp -implicitDefEqProofs [hc, hc', h, hrk, hcc, g, gsj, gcc, gl, gt, ql, qt, e3, g3, hlc, htc, n1, n2, n3])) | (with_reducible apply callK_pure <;> first | (simp only [eras, era, eras_map]; first | with_reducible exact q1 | with_reducible exact q2 | with_reducible exact q3 | with_reducible exact q4 | simpa using q1 | simpa using q2 | simpa using q3 | simpa using q4) | (simp -implicitDefEqProofs [h, hrk, hcc, g, gsj, gcc, gl, gt, ql, qt, e3, g3, hlc, htc, n1, n2, n3])))
      all_goals (first | (exfalso; simp_all; done) | (exfalso; simp_all; omega))
   ·have : j = ss.length := by omega
    subst this
    rw [List.take_length] at hjn
    have hst := hstep (by rw [hrul]; exact List.all_eq_true.2 hjn)
    ((try simp -implicitDefEqProofs [h, hrk, hcc, e3, hlc, htc]); repeat' first | ((with_reducible first | apply gdK_em | apply cdK_em | apply pickK_em) <;> (intro hc; have hc' := hc; (try simp at hc'); simp -implicitDefEqProofs [hc, hc', h, hrk, hcc, e3, hlc, htc])))
    exact hst
  ·have hhd' : (nb && decide (ss.length ≤ 30) && ab) = false := by simpa using hhd
   rw [hhd', Bool.false_and] at hrul
   rw [hout hrul, Bool.false_and] at hR
   subst hR
   cases nb
   ·((try simp at h1); (try simp at h2); (try simp -implicitDefEqProofs [h, hrk, hcc, e3, hlc, htc]); repeat' first | ((with_reducible first | apply gdK_em | apply cdK_em | apply pickK_em) <;> (intro hc; have hc' := hc; (try simp at hc'); simp -implicitDefEqProofs [hc, hc', h, hrk, hcc, e3, hlc, htc])) | (with_reducible apply callK_pure <;> first | (simp only [eras, era, eras_map]; first | with_reducible exact h1 | with_reducible exact h2 | simpa using h1 | simpa using h2) | (simp -implicitDefEqProofs [h, hrk, hcc, e3, hlc, htc])))
   ·by_cases h30 : ss.length ≤ 30
    ·have h30' : decide ((30 : Int) < ss.length) = false := by simp; omega
     have : ab = false := by simpa [h30] using hhd'
     subst this
     ((try simp at h1); (try simp at h2); (try simp -implicitDefEqProofs [h, hrk, hcc, h30', e3, hlc, htc]); repeat' first | ((with_reducible first | apply gdK_em | apply cdK_em | apply pickK_em) <;> (intro hc; have hc' := hc; (try simp at hc'); simp -implicitDefEqProofs [hc, hc', h, hrk, hcc, h30', e3, hlc, htc])) | (with_reducible apply callK_pure <;> first | (simp only [eras, era, eras_map]; first | with_reducible exact h1 | with_reducible exact h2 | simpa using h1 | simpa using h2) | (simp -implicitDefEqProofs [h, hrk, hcc, h30', e3, hlc, htc])))
    ·have h30' : decide ((30 : Int) < ss.length) = true := by simp; omega
     ((try simp at h1); (try simp at h2); (try simp -implicitDefEqProofs [h, hrk, hcc, h30', e3, hlc, htc]); repeat' first | ((with_reducible first | apply gdK_em | apply cdK_em | apply pickK_em) <;> (intro hc; have hc' := hc; (try simp at hc'); simp -implicitDefEqProofs [hc, hc', h, hrk, hcc, h30', e3, hlc, htc])) | (with_reducible apply callK_pure <;> first | (simp only [eras, era, eras_map]; first | with_reducible exact h1 | with_reducible exact h2 | simpa using h1 | simpa using h2) | (simp -implicitDefEqProofs [h, hrk, hcc, h30', e3, hlc, htc])))
 ·have : k = p.length := by omega
  subst this
  rw [List.take_length] at hn
  have hall : p.all rulB = true := List.all_eq_true.2 hn
  rw [hall, Bool.true_and] at hR
  subst hR
  ((try simp -implicitDefEqProofs); repeat' first | ((with_reducible first | apply gdK_em | apply cdK_em | apply pickK_em) <;> (intro hc; have hc' := hc; (try simp at hc'); simp -implicitDefEqProofs [hc, hc'])))
  omega
end Go.Proofs.YtpggidmbnjfmaaaGreatDoor
