/- Chapter 32: the reference's Few. -/
import Derived.Test.YtpggidmbnjfmaaaGreatDoorSye
import Derived.Test.YtpggidmbnjfmaaaGreatDoorCodeE
import Derived.Test.YtpggidmbnjfmaaaGreatDoorCodeC
set_option linter.unusedSimpArgs false
set_option linter.unusedVariables false
set_option maxHeartbeats 4000000
set_option maxRecDepth 8000
namespace Go.Proofs.YtpggidmbnjfmaaaGreatDoor
open E

def fewS (s : Stm) : Bool := decide (s.name.length ≤ 100) && decide (s.ex.cnt ≤ 200)
def fewR (r : Rul) : Bool := decide (r.name.length ≤ 100) && decide (r.stmts.length ≤ 40) && r.stmts.all fewS
def fewB (p : List Rul) : Bool := p.all fewR && decide (p.length ≤ 50)
theorem w_Few (p : List Rul) : Pure Tryz.prog 18 [Rul.l p] (vB (fewB p)) := by
 generalize hR : vB (fewB p) = R
 unfold fewB at hR
 (refine Pure.of_code mix Tryz.call18 k_18 (by simp) (fun hB => ?_); (try simp at hB); (try simp -implicitDefEqProofs [qc_18]))
 refine loop_rule (X := Nat) (fun k => k ≤ p.length ∧ ∀ y ∈ p.take k, fewR y = true) (fun k => [(0, Rul.l p), (3, vI k)]) (fun _ => St0) (fun k => p.length - k) 0 ⟨by simp, by simp⟩ (by simp) ?_
 rintro k ⟨hk, hn⟩ hbd
 rcases Nat.lt_or_ge k p.length with h | h
 ·have hx : p[k]? = some p[k] := by simp [h]
  have e3 : IntKind.i64.wrap ((k : Int) + 1) = (k : Int) + 1 := wrap64 (by omega) (by simp [maxLen] at hB; omega)
  have hlc := len_rc p[k]
  have htc := take_rc p[k]
  have hstep : fewR p[k] = true → ∃ z' : Nat, (z' ≤ p.length ∧ ∀ y ∈ p.take z', fewR y = true) ∧ p.length - z' < p.length - k ∧ (z' : Int) = (k : Int) + 1 := by
   intro hr
   refine ⟨k + 1, ⟨by omega, fun y hy => ?_⟩, by omega, by push_cast; rfl⟩
   rw [take_next hx] at hy
   rcases List.mem_append.1 hy with h1 | h1
   ·exact hn y h1
   ·simp at h1; subst h1; exact hr
  have hout : fewR p[k] = false → p.all fewR = false := by
   intro hr
   rw [List.all_eq_false]
   exact ⟨p[k], List.getElem_mem h, by simp [hr]⟩
  have hrul : fewR p[k] = (decide (p[k].name.length ≤ 100) && decide (p[k].stmts.length ≤ 40) && p[k].stmts.all fewS) := rfl
  have hcc : p[k].c = [.str p[k].name, .bool p[k].pair, .sl (p[k].stmts.map Stm.c), .int .i64 p[k].to] := rfl
  generalize hrk : p[k] = r at *
  obtain ⟨nm, pr, ss, to⟩ := r
  simp only [] at *
  by_cases hnm : nm.length ≤ 100
  ·have hnm' : decide ((100 : Int) < nm.length) = false := by simp; omega
   by_cases h40 : ss.length ≤ 40
   ·have h40' : decide ((40 : Int) < ss.length) = false := by simp; omega
    rw [decide_eq_true hnm, decide_eq_true h40] at hrul
    simp only [Bool.true_and] at hrul
    ((try simp -implicitDefEqProofs [h, hrk, hcc, hnm', h40', e3, hlc, htc]); repeat' first | ((with_reducible first | apply gdK_em | apply cdK_em | apply pickK_em) <;> (intro hc; have hc' := hc; (try simp at hc'); simp -implicitDefEqProofs [hc, hc', h, hrk, hcc, hnm', h40', e3, hlc, htc])))
    refine loop_rule (X := Nat) (fun j => j ≤ ss.length ∧ ∀ y ∈ ss.take j, fewS y = true) (fun j => [(0, Rul.l p), (3, vI k), (4, vI j)]) (fun _ => St0) (fun j => ss.length - j) 0 ⟨by simp, by simp⟩ (by simp) ?_
    rintro j ⟨hj, hjn⟩ hbd2
    clear hbd2
    rcases Nat.lt_or_ge j ss.length with g | g
    ·have gx : ss[j]? = some ss[j] := by simp [g]
     have gl := len_sc ss[j]
     have gt := take_sc ss[j]
     have g3 : IntKind.i64.wrap ((j : Int) + 1) = (j : Int) + 1 := wrap64 (by omega) (by omega)
     have gstep : fewS ss[j] = true → ∃ z' : Nat, (z' ≤ ss.length ∧ ∀ y ∈ ss.take z', fewS y = true) ∧ ss.length - z' < ss.length - j ∧ (z' : Int) = (j : Int) + 1 := by
      intro hr
      refine ⟨j + 1, ⟨by omega, fun y hy => ?_⟩, by omega, by push_cast; rfl⟩
      rw [take_next gx] at hy
      rcases List.mem_append.1 hy with h1 | h1
      ·exact hjn y h1
      ·simp at h1; subst h1; exact hr
     have gout : fewS ss[j] = false → p.all fewR = false := by
      intro hr
      refine hout ?_
      rw [hrul, List.all_eq_false]
      exact ⟨ss[j], List.getElem_mem g, by simp [hr]⟩
     have gcc : ss[j].c = .int .i64 ss[j].kind :: .int .i64 ss[j].acc :: .str ss[j].name :: ss[j].ex.c := rfl
     have gd : fewS ss[j] = (decide (ss[j].name.length ≤ 100) && decide (ss[j].ex.cnt ≤ 200)) := rfl
     generalize gsj : ss[j] = st at *
     obtain ⟨sk, sa, sn, sx⟩ := st
     simp only [] at *
     have q1 := w_size sx 201 (by omega) (by omega)
     have ql := len_c sx
     have qt := take_c sx
     by_cases f1 : sn.length ≤ 100
     ·have f1' : decide ((100 : Int) < sn.length) = false := by simp; omega
      rw [decide_eq_true f1, Bool.true_and] at gd
      by_cases f2 : sx.cnt ≤ 200
      ·have gst := gstep (by rw [gd]; simpa using f2)
       have f2' : decide ((200 : Int) < ((min sx.cnt 201 : Nat) : Int)) = false := by simp; omega
       generalize min sx.cnt 201 = z at *
       ((try simp at q1); (try simp -implicitDefEqProofs [h, hrk, hcc, g, gsj, gcc, gl, gt, ql, qt, e3, g3, hlc, htc, f1', f2']); repeat' first | ((with_reducible first | apply gdK_em | apply cdK_em | apply pickK_em) <;> (intro hc; have hc' := hc; (try simp at hc'); simp -implicitDefEqProofs [hc, hc', h, hrk, hcc, g, gsj, gcc, gl, gt, ql, qt, e3, g3, hlc, htc, f1', f2'])) | (with_reducible apply callK_pure <;> first | (simp only [eras, era, eras_map]; first | with_reducible exact q1 | simpa using q1) | (simp -implicitDefEqProofs [h, hrk, hcc, g, gsj, gcc, gl, gt, ql, qt, e3, g3, hlc, htc, f1', f2'])))
       exact gst
      ·rw [gout (by rw [gd]; simpa using f2), Bool.false_and] at hR
       subst hR
       have f2' : decide ((200 : Int) < ((min sx.cnt 201 : Nat) : Int)) = true := by simp; omega
       generalize min sx.cnt 201 = z at *
       ((try simp at q1); (try simp -implicitDefEqProofs [h, hrk, hcc, g, gsj, gcc, gl, gt, ql, qt, e3, g3, hlc, htc, f1', f2']); repeat' first | ((with_reducible first | apply gdK_em | apply cdK_em | apply pickK_em) <;> (intro hc; have hc' := hc; (try simp at hc'); simp -implicitDefEqProofs [hc, hc', h, hrk, hcc, g, gsj, gcc, gl, gt, ql, qt, e3, g3, hlc, htc, f1', f2'])) | (with_reducible apply callK_pure <;> first | (simp only [eras, era, eras_map]; first | with_reducible exact q1 | simpa using q1) | (simp -implicitDefEqProofs [h, hrk, hcc, g, gsj, gcc, gl, gt, ql, qt, e3, g3, hlc, htc, f1', f2'])))
     ·have f1' : decide ((100 : Int) < sn.length) = true := by simp; omega
      rw [gout (by rw [gd]; simp [f1]), Bool.false_and] at hR
      subst hR
      ((try simp at q1); (try simp -implicitDefEqProofs [h, hrk, hcc, g, gsj, gcc, gl, gt, ql, qt, e3, g3, hlc, htc, f1']); repeat' first | ((with_reducible first | apply gdK_em | apply cdK_em | apply pickK_em) <;> (intro hc; have hc' := hc; (try simp at hc'); simp -implicitDefEqProofs [hc, hc', h, hrk, hcc, g, gsj, gcc, gl, gt, ql, qt, e3, g3, hlc, htc, f1'])) | (with_reducible apply callK_pure <;> first | (simp only [eras, era, eras_map]; first | with_reducible exact q1 | simpa using q1) | (simp -implicitDefEqProofs [h, hrk, hcc, g, gsj, gcc, gl, gt, ql, qt, e3, g3, hlc, htc, f1'])))
    ·have : j = ss.length := by omega
     subst this
     rw [List.take_length] at hjn
     have hst := hstep (by rw [hrul]; exact List.all_eq_true.2 hjn)
     ((try simp -implicitDefEqProofs [h, hrk, hcc, e3, hlc, htc]); repeat' first | ((with_reducible first | apply gdK_em | apply cdK_em | apply pickK_em) <;> (intro hc; have hc' := hc; (try simp at hc'); simp -implicitDefEqProofs [hc, hc', h, hrk, hcc, e3, hlc, htc])))
     exact hst
   ·have h40' : decide ((40 : Int) < ss.length) = true := by simp; omega
    rw [hout (by rw [hrul]; simp [h40]), Bool.false_and] at hR
    subst hR
    ((try simp -implicitDefEqProofs [h, hrk, hcc, hnm', h40', e3, hlc, htc]); repeat' first | ((with_reducible first | apply gdK_em | apply cdK_em | apply pickK_em) <;> (intro hc; have hc' := hc; (try simp at hc'); simp -implicitDefEqProofs [hc, hc', h, hrk, hcc, hnm', h40', e3, hlc, htc])))
  ·have hnm' : decide ((100 : Int) < nm.length) = true := by simp; omega
   rw [hout (by rw [hrul]; simp [hnm]), Bool.false_and] at hR
   subst hR
   ((try simp -implicitDefEqProofs [h, hrk, hcc, hnm', e3, hlc, htc]); repeat' first | ((with_reducible first | apply gdK_em | apply cdK_em | apply pickK_em) <;> (intro hc; have hc' := hc; (try simp at hc'); simp -implicitDefEqProofs [hc, hc', h, hrk, hcc, hnm', e3, hlc, htc])))
 ·have : k = p.length := by omega
  subst this
  rw [List.take_length] at hn
  have hall : p.all fewR = true := List.all_eq_true.2 hn
  rw [hall, Bool.true_and] at hR
  subst hR
  ((try simp -implicitDefEqProofs); repeat' first | ((with_reducible first | apply gdK_em | apply cdK_em | apply pickK_em) <;> (intro hc; have hc' := hc; (try simp at hc'); simp -implicitDefEqProofs [hc, hc'])))
  omega
end Go.Proofs.YtpggidmbnjfmaaaGreatDoor
