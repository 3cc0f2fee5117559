/- Chapter 32: proper expressions. -/
import Derived.Test.YtpggidmbnjfmaaaGreatDoorIdf
set_option linter.unusedSimpArgs false
set_option linter.unusedVariables false
set_option maxHeartbeats 4000000
set_option maxRecDepth 8000
namespace Go.Proofs.YtpggidmbnjfmaaaGreatDoor
open E

def fldB (k v f t : Int) (n : List UInt8) : Bool :=
 if k = 1 then decide (0 ≤ v) && decide (v ≤ 1000000000000) && (f == 0) && (t == 0) && n.isEmpty else
 if k = 2 then nameB n && (v == 0) && (f == 0) && (t == 0) else
 if k = 20 then decide (1 ≤ v) && decide (v ≤ 1000000000000) && (f == 0) && (t == 0) && n.isEmpty else
 if k = 21 ∨ k = 22 then acB f && acB t && (v == 0) && n.isEmpty else
 (v == 0) && (f == 0) && (t == 0) && n.isEmpty
def shpB (k v f t : Int) (n : List UInt8) (len : Nat) : Bool := kdB k && ((len : Int) == argsI k) && fldB k v f t n
namespace Xp
mutual
def prop : Xp → Bool
 | .mk k v f t n xs => shpB k v f t n xs.length && props xs
def props : List Xp → Bool
 | [] => true
 | x :: ys => prop x && props ys
end
theorem props_all (l : List Xp) : props l = !l.any fun x => !prop x := by
 induction l with
 | nil => rfl
 | cons x l ih => rw [props, ih]; simp
end Xp
theorem w_prop1 (x : Xp) (h : Pure Tryz.prog 115 [x.v] (vB x.prop)) : Pure Tryz.prog 143 [x.v] (vB (!x.prop)) := by
 generalize x.prop = b at *
 have hlc := len_c x
 have htc := take_c x
 (refine Pure.of_code mix Tryz.call143 k_143 (by simp) (fun hB => ?_); (try simp at hB); (try simp -implicitDefEqProofs [qc_143]))
 ((try simp at h); (try simp -implicitDefEqProofs [hlc, htc]); repeat' first | (with_reducible apply callK_pure <;> first | (simp only [eras, era, eras_map]; first | with_reducible exact h | simpa using h) | (simp -implicitDefEqProofs [hlc, htc])))
theorem w_proper : ∀ (x : Xp), Pure Tryz.prog 115 [x.v] (vB x.prop) := by
 refine Xp.ind fun kd vl fr to nm xs ih => ?_
 have hcon := w_ConX St0 okS0 xs 143 [] rfl (fun x => !x.prop) (fun x hx => w_prop1 x (ih x hx))
 rw [Xp.prop, Xp.props_all]
 generalize xs.any (fun x => !x.prop) = anyb at *
 have hcon' : Pure Tryz.prog 142 [Xp.l xs, .fn (.func 143) []] (vB anyb) := hcon
 have hargs := w_args kd
 have hnm := w_named nm
 have ha1 := w_ac fr
 have ha2 := w_ac to
 rw [Xp.v, Xp.c_mk]
 generalize hR : vB (shpB kd vl fr to nm xs.length && !anyb) = R
 unfold shpB fldB at hR
 generalize nameB nm = nb at *
 generalize acB fr = fb at *
 generalize acB to = tb at *
 have hkd : kdB kd = (decide (1 ≤ kd) && decide (kd ≤ 22)) := rfl
 have hcases : kd = 1 ∨ kd = 2 ∨ kd = 20 ∨ kd = 21 ∨ kd = 22 ∨ ((kd == 1) = false ∧ (kd == 2) = false ∧ (kd == 20) = false ∧ (kd == 21) = false ∧ (kd == 22) = false) := by
  simp only [beq_eq_false_iff_ne, ne_eq]; omega
 by_cases hsh : (kdB kd && ((xs.length : Int) == argsI kd)) = true
 ·rw [Bool.and_eq_true] at hsh
  obtain ⟨hk, hlen'⟩ := hsh
  rw [hk, hlen'] at hR
  rw [hkd, Bool.and_eq_true] at hk
  have k1 : 1 ≤ kd := of_decide_eq_true hk.1
  have k2 : kd ≤ 22 := of_decide_eq_true hk.2
  clear hk hkd
  rcases hcases with rfl | rfl | rfl | rfl | rfl | ⟨n1, n2, n3, n4, n5⟩
  ·(refine Pure.of_code mix Tryz.call115 k_115 (by simp) (fun hB => ?_); (try simp at hB); (try simp -implicitDefEqProofs [qc_115]))
   ((try simp at hargs); (try simp at hnm); (try simp at ha1); (try simp at ha2); (try simp at hcon'); (try simp -implicitDefEqProofs [hlen']); repeat' first | ((with_reducible first | apply gdK_em | apply cdK_em | apply pickK_em) <;> (intro hc; have hc' := hc; (try simp at hc'); simp -implicitDefEqProofs [hc, hc', hlen'])) | (with_reducible apply callK_pure <;> first | (simp only [eras, era, eras_map]; first | with_reducible exact hargs | with_reducible exact hnm | with_reducible exact ha1 | with_reducible exact ha2 | with_reducible exact hcon' | simpa using hargs | simpa using hnm | simpa using ha1 | simpa using ha2 | simpa using hcon') | (simp -implicitDefEqProofs [hlen'])))
   all_goals (subst hR; simp_all <;> (intros; omega))
  ·(refine Pure.of_code mix Tryz.call115 k_115 (by simp) (fun hB => ?_); (try simp at hB); (try simp -implicitDefEqProofs [qc_115]))
   ((try simp at hargs); (try simp at hnm); (try simp at ha1); (try simp at ha2); (try simp at hcon'); (try simp -implicitDefEqProofs [hlen']); repeat' first | ((with_reducible first | apply gdK_em | apply cdK_em | apply pickK_em) <;> (intro hc; have hc' := hc; (try simp at hc'); simp -implicitDefEqProofs [hc, hc', hlen'])) | (with_reducible apply callK_pure <;> first | (simp only [eras, era, eras_map]; first | with_reducible exact hargs | with_reducible exact hnm | with_reducible exact ha1 | with_reducible exact ha2 | with_reducible exact hcon' | simpa using hargs | simpa using hnm | simpa using ha1 | simpa using ha2 | simpa using hcon') | (simp -implicitDefEqProofs [hlen'])))
   all_goals (subst hR; simp_all <;> (intros; omega))
  ·(refine Pure.of_code mix Tryz.call115 k_115 (by simp) (fun hB => ?_); (try simp at hB); (try simp -implicitDefEqProofs [qc_115]))
   ((try simp at hargs); (try simp at hnm); (try simp at ha1); (try simp at ha2); (try simp at hcon'); (try simp -implicitDefEqProofs [hlen']); repeat' first | ((with_reducible first | apply gdK_em | apply cdK_em | apply pickK_em) <;> (intro hc; have hc' := hc; (try simp at hc'); simp -implicitDefEqProofs [hc, hc', hlen'])) | (with_reducible apply callK_pure <;> first | (simp only [eras, era, eras_map]; first | with_reducible exact hargs | with_reducible exact hnm | with_reducible exact ha1 | with_reducible exact ha2 | with_reducible exact hcon' | simpa using hargs | simpa using hnm | simpa using ha1 | simpa using ha2 | simpa using hcon') | (simp -implicitDefEqProofs [hlen'])))
   all_goals (subst hR; simp_all <;> (intros; omega))
  ·(refine Pure.of_code mix Tryz.call115 k_115 (by simp) (fun hB => ?_); (try simp at hB); (try simp -implicitDefEqProofs [qc_115]))
   ((try simp at hargs); (try simp at hnm); (try simp at ha1); (try simp at ha2); (try simp at hcon'); (try simp -implicitDefEqProofs [hlen']); repeat' first | ((with_reducible first | apply gdK_em | apply cdK_em | apply pickK_em) <;> (intro hc; have hc' := hc; (try simp at hc'); simp -implicitDefEqProofs [hc, hc', hlen'])) | (with_reducible apply callK_pure <;> first | (simp only [eras, era, eras_map]; first | with_reducible exact hargs | with_reducible exact hnm | with_reducible exact ha1 | with_reducible exact ha2 | with_reducible exact hcon' | simpa using hargs | simpa using hnm | simpa using ha1 | simpa using ha2 | simpa using hcon') | (simp -implicitDefEqProofs [hlen'])))
   all_goals (subst hR; simp_all <;> (intros; omega))
  ·(refine Pure.of_code mix Tryz.call115 k_115 (by simp) (fun hB => ?_); (try simp at hB); (try simp -implicitDefEqProofs [qc_115]))
   ((try simp at hargs); (try simp at hnm); (try simp at ha1); (try simp at ha2); (try simp at hcon'); (try simp -implicitDefEqProofs [hlen']); repeat' first | ((with_reducible first | apply gdK_em | apply cdK_em | apply pickK_em) <;> (intro hc; have hc' := hc; (try simp at hc'); simp -implicitDefEqProofs [hc, hc', hlen'])) | (with_reducible apply callK_pure <;> first | (simp only [eras, era, eras_map]; first | with_reducible exact hargs | with_reducible exact hnm | with_reducible exact ha1 | with_reducible exact ha2 | with_reducible exact hcon' | simpa using hargs | simpa using hnm | simpa using ha1 | simpa using ha2 | simpa using hcon') | (simp -implicitDefEqProofs [hlen'])))
   all_goals (subst hR; simp_all <;> (intros; omega))
  ·(refine Pure.of_code mix Tryz.call115 k_115 (by simp) (fun hB => ?_); (try simp at hB); (try simp -implicitDefEqProofs [qc_115]))
   ((try simp at hargs); (try simp at hnm); (try simp at ha1); (try simp at ha2); (try simp at hcon'); (try simp -implicitDefEqProofs [hlen', k1, k2, n1, n2, n3, n4, n5]); repeat' first | ((with_reducible first | apply gdK_em | apply cdK_em | apply pickK_em) <;> (intro hc; have hc' := hc; (try simp at hc'); simp -implicitDefEqProofs [hc, hc', hlen', k1, k2, n1, n2, n3, n4, n5])) | (with_reducible apply callK_pure <;> first | (simp only [eras, era, eras_map]; first | with_reducible exact hargs | with_reducible exact hnm | with_reducible exact ha1 | with_reducible exact ha2 | with_reducible exact hcon' | simpa using hargs | simpa using hnm | simpa using ha1 | simpa using ha2 | simpa using hcon') | (simp -implicitDefEqProofs [hlen', k1, k2, n1, n2, n3, n4, n5])))
   all_goals (subst hR; simp_all <;> (intros; omega))
 ·have hf : (kdB kd && ((xs.length : Int) == argsI kd)) = false := by simpa using hsh
  rw [hf] at hR
  simp only [Bool.false_and] at hR
  subst hR
  clear hsh
  rw [hkd] at hf
  rcases hcases with rfl | rfl | rfl | rfl | rfl | ⟨n1, n2, n3, n4, n5⟩
  ·have hlen' : ((xs.length : Int) == argsI 1) = false := by simpa using hf
   (refine Pure.of_code mix Tryz.call115 k_115 (by simp) (fun hB => ?_); (try simp at hB); (try simp -implicitDefEqProofs [qc_115]))
   ((try simp at hargs); (try simp at hnm); (try simp at ha1); (try simp at ha2); (try simp at hcon'); (try simp -implicitDefEqProofs [hlen']); repeat' first | (with_reducible apply callK_pure <;> first | (simp only [eras, era, eras_map]; first | with_reducible exact hargs | with_reducible exact hnm | with_reducible exact ha1 | with_reducible exact ha2 | with_reducible exact hcon' | simpa using hargs | simpa using hnm | simpa using ha1 | simpa using ha2 | simpa using hcon') | (simp -implicitDefEqProofs [hlen'])))
  ·have hlen' : ((xs.length : Int) == argsI 2) = false := by simpa using hf
   (refine Pure.of_code mix Tryz.call115 k_115 (by simp) (fun hB => ?_); (try simp at hB); (try simp -implicitDefEqProofs [qc_115]))
   ((try simp at hargs); (try simp at hnm); (try simp at ha1); (try simp at ha2); (try simp at hcon'); (try simp -implicitDefEqProofs [hlen']); repeat' first | (with_reducible apply callK_pure <;> first | (simp only [eras, era, eras_map]; first | with_reducible exact hargs | with_reducible exact hnm | with_reducible exact ha1 | with_reducible exact ha2 | with_reducible exact hcon' | simpa using hargs | simpa using hnm | simpa using ha1 | simpa using ha2 | simpa using hcon') | (simp -implicitDefEqProofs [hlen'])))
  ·have hlen' : ((xs.length : Int) == argsI 20) = false := by simpa using hf
   (refine Pure.of_code mix Tryz.call115 k_115 (by simp) (fun hB => ?_); (try simp at hB); (try simp -implicitDefEqProofs [qc_115]))
   ((try simp at hargs); (try simp at hnm); (try simp at ha1); (try simp at ha2); (try simp at hcon'); (try simp -implicitDefEqProofs [hlen']); repeat' first | (with_reducible apply callK_pure <;> first | (simp only [eras, era, eras_map]; first | with_reducible exact hargs | with_reducible exact hnm | with_reducible exact ha1 | with_reducible exact ha2 | with_reducible exact hcon' | simpa using hargs | simpa using hnm | simpa using ha1 | simpa using ha2 | simpa using hcon') | (simp -implicitDefEqProofs [hlen'])))
  ·have hlen' : ((xs.length : Int) == argsI 21) = false := by simpa using hf
   (refine Pure.of_code mix Tryz.call115 k_115 (by simp) (fun hB => ?_); (try simp at hB); (try simp -implicitDefEqProofs [qc_115]))
   ((try simp at hargs); (try simp at hnm); (try simp at ha1); (try simp at ha2); (try simp at hcon'); (try simp -implicitDefEqProofs [hlen']); repeat' first | (with_reducible apply callK_pure <;> first | (simp only [eras, era, eras_map]; first | with_reducible exact hargs | with_reducible exact hnm | with_reducible exact ha1 | with_reducible exact ha2 | with_reducible exact hcon' | simpa using hargs | simpa using hnm | simpa using ha1 | simpa using ha2 | simpa using hcon') | (simp -implicitDefEqProofs [hlen'])))
  ·have hlen' : ((xs.length : Int) == argsI 22) = false := by simpa using hf
   (refine Pure.of_code mix Tryz.call115 k_115 (by simp) (fun hB => ?_); (try simp at hB); (try simp -implicitDefEqProofs [qc_115]))
   ((try simp at hargs); (try simp at hnm); (try simp at ha1); (try simp at ha2); (try simp at hcon'); (try simp -implicitDefEqProofs [hlen']); repeat' first | (with_reducible apply callK_pure <;> first | (simp only [eras, era, eras_map]; first | with_reducible exact hargs | with_reducible exact hnm | with_reducible exact ha1 | with_reducible exact ha2 | with_reducible exact hcon' | simpa using hargs | simpa using hnm | simpa using ha1 | simpa using ha2 | simpa using hcon') | (simp -implicitDefEqProofs [hlen'])))
  ·by_cases k1 : 1 ≤ kd
   ·by_cases k2 : kd ≤ 22
    ·have hlen' : ((xs.length : Int) == argsI kd) = false := by simpa [k1, k2] using hf
     (refine Pure.of_code mix Tryz.call115 k_115 (by simp) (fun hB => ?_); (try simp at hB); (try simp -implicitDefEqProofs [qc_115]))
     ((try simp at hargs); (try simp at hnm); (try simp at ha1); (try simp at ha2); (try simp at hcon'); (try simp -implicitDefEqProofs [hlen', k1, k2, n1, n2, n3, n4, n5]); repeat' first | (with_reducible apply callK_pure <;> first | (simp only [eras, era, eras_map]; first | with_reducible exact hargs | with_reducible exact hnm | with_reducible exact ha1 | with_reducible exact ha2 | with_reducible exact hcon' | simpa using hargs | simpa using hnm | simpa using ha1 | simpa using ha2 | simpa using hcon') | (simp -implicitDefEqProofs [hlen', k1, k2, n1, n2, n3, n4, n5])))
    ·(refine Pure.of_code mix Tryz.call115 k_115 (by simp) (fun hB => ?_); (try simp at hB); (try simp -implicitDefEqProofs [qc_115]))
     ((try simp at hargs); (try simp at hnm); (try simp at ha1); (try simp at ha2); (try simp at hcon'); (try simp -implicitDefEqProofs [k1, k2, n1, n2, n3, n4, n5]); repeat' first | (with_reducible apply callK_pure <;> first | (simp only [eras, era, eras_map]; first | with_reducible exact hargs | with_reducible exact hnm | with_reducible exact ha1 | with_reducible exact ha2 | with_reducible exact hcon' | simpa using hargs | simpa using hnm | simpa using ha1 | simpa using ha2 | simpa using hcon') | (simp -implicitDefEqProofs [k1, k2, n1, n2, n3, n4, n5])))
   ·(refine Pure.of_code mix Tryz.call115 k_115 (by simp) (fun hB => ?_); (try simp at hB); (try simp -implicitDefEqProofs [qc_115]))
    ((try simp at hargs); (try simp at hnm); (try simp at ha1); (try simp at ha2); (try simp at hcon'); (try simp -implicitDefEqProofs [k1, n1, n2, n3, n4, n5]); repeat' first | (with_reducible apply callK_pure <;> first | (simp only [eras, era, eras_map]; first | with_reducible exact hargs | with_reducible exact hnm | with_reducible exact ha1 | with_reducible exact ha2 | with_reducible exact hcon' | simpa using hargs | simpa using hnm | simpa using ha1 | simpa using ha2 | simpa using hcon') | (simp -implicitDefEqProofs [k1, n1, n2, n3, n4, n5])))
end Go.Proofs.YtpggidmbnjfmaaaGreatDoor
