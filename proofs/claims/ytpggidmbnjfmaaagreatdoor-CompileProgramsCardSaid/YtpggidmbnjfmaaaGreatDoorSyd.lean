/- Chapter 32: the reference's proper. -/
import Derived.Test.YtpggidmbnjfmaaaGreatDoorSyc
set_option linter.unusedSimpArgs false
set_option linter.unusedVariables false
set_option maxHeartbeats 4000000
set_option maxRecDepth 8000
namespace Go.Proofs.YtpggidmbnjfmaaaGreatDoor
open E

namespace Xp
mutual
def ok : Xp → Prop
 | .mk _ _ _ _ n xs => n.length ≤ maxLen ∧ oks xs
def oks : List Xp → Prop
 | [] => True
 | x :: ys => ok x ∧ oks ys
end
theorem oks_mem : ∀ (l : List Xp), oks l → ∀ x ∈ l, ok x
 | [], _, x, h => by cases h
 | y :: l, h, x, hx => by
  rw [oks] at h
  rcases List.mem_cons.1 hx with rfl | hx
  ·exact h.1
  ·exact oks_mem l h.2 x hx
theorem props_get {l : List Xp} {k : Nat} {x : Xp} (hx : l[k]? = some x) : props (l.take (k + 1)) = (props (l.take k) && x.prop) := by
 rw [take_next hx]
 generalize l.take k = m
 induction m with
 | nil => simp [props]
 | cons y m ih => simp only [List.cons_append, props, ih, Bool.and_assoc]
theorem props_take {l : List Xp} {k : Nat} (h : props (l.take k) = false) : props l = false := by
 induction l generalizing k with
 | nil => simp [props] at h
 | cons y l ih =>
  cases k with
  | zero => simp [props] at h
  | succ k =>
   simp only [List.take_succ_cons, props] at h ⊢
   cases hy : y.prop
   ·simp
   ·rw [hy] at h; simpa using ih (by simpa using h)
end Xp
theorem w_properR : ∀ (x : Xp), x.ok → Pure Tryz.prog 78 [x.v] (vB x.prop) := by
 refine Xp.ind fun kd vl fr to nm xs ih hok => ?_
 rw [Xp.ok] at hok
 obtain ⟨hnl, hoks⟩ := hok
 have hmem := Xp.oks_mem xs hoks
 clear hoks
 rw [Xp.prop]
 have hargs := w_argsR kd
 have hnm := w_nameR nm hnl
 have ha1 := w_acR fr
 have ha2 := w_acR to
 rw [Xp.v, Xp.c_mk]
 generalize hR : vB (shpB kd vl fr to nm xs.length && Xp.props xs) = R
 unfold shpB fldB at hR
 generalize nameB nm = nb at *
 generalize acB fr = fb at *
 generalize acB to = tb at *
 have hal0 : 0 ≤ argsI kd := by unfold argsI; split <;> (try split) <;> omega
 have hcases : kd = 1 ∨ kd = 2 ∨ kd = 20 ∨ kd = 21 ∨ kd = 22 ∨ ((kd == 1) = false ∧ (kd == 2) = false ∧ (kd == 20) = false ∧ (kd == 21) = false ∧ (kd == 22) = false) := by
  simp only [beq_eq_false_iff_ne, ne_eq]; omega
 by_cases hsh : (kdB kd && ((xs.length : Int) == argsI kd)) = true
 ·rw [hsh, Bool.true_and] at hR
  rw [Bool.and_eq_true] at hsh
  obtain ⟨hk, hlen'⟩ := hsh
  rw [if_pos hk] at hargs
  have hlen : ((xs.length : Int) != argsI kd) = false := by simpa using hlen'
  (refine Pure.of_code mix Tryz.call78 k_78 (by simp) (fun hB => ?_); (try simp at hB); (try simp -implicitDefEqProofs [qc_78]))
  ((try simp at hargs); (try simp -implicitDefEqProofs [hlen]); repeat' first | (with_reducible apply callK_pure <;> first | (simp only [eras, era, eras_map]; first | with_reducible exact hargs | simpa using hargs) | (simp -implicitDefEqProofs [hlen])))
  refine loop_rule (X := Nat) (fun k => k ≤ xs.length ∧ Xp.props (xs.take k) = true) (fun k => [(1, .ptr 0 0), (3, vI k)]) (fun _ => ⟨[.cells [vI kd, vI vl, vI fr, vI to, vS nm, Xp.l xs]], []⟩) (fun k => xs.length - k) 0 ⟨by simp, by simp [Xp.props]⟩ (by simp) ?_
  rintro k ⟨hkl, hpr⟩ hbd
  rcases Nat.lt_or_ge k xs.length with h | h
  ·have hx : xs[k]? = some xs[k] := by simp [h]
   have hrec := ih xs[k] (List.getElem_mem h) (hmem _ (List.getElem_mem h))
   have e3 : IntKind.i64.wrap ((k : Int) + 1) = (k : Int) + 1 := wrap64 (by omega) (by simp [maxLen] at hB; omega)
   have hlc := len_c xs[k]
   have htc := take_c xs[k]
   have hnx := Xp.props_get hx
   rw [hpr, Bool.true_and] at hnx
   cases hp : xs[k].prop
   ·rw [hp] at hrec hnx
    rw [Xp.props_take hnx, Bool.and_false] at hR
    subst hR
    ((try simp at hrec); (try simp -implicitDefEqProofs [h, e3, hlc, htc]); repeat' first | (with_reducible apply callK_pure <;> first | (simp only [eras, era, eras_map]; first | with_reducible exact hrec | simpa using hrec) | (simp -implicitDefEqProofs [h, e3, hlc, htc])))
   ·rw [hp] at hrec hnx
    ((try simp at hrec); (try simp -implicitDefEqProofs [h, e3, hlc, htc]); repeat' first | (with_reducible apply callK_pure <;> first | (simp only [eras, era, eras_map]; first | with_reducible exact hrec | simpa using hrec) | (simp -implicitDefEqProofs [h, e3, hlc, htc])))
    exact ⟨k + 1, ⟨by omega, hnx⟩, by omega, by push_cast; rfl⟩
  ·have : k = xs.length := by omega
   subst this
   rw [List.take_length] at hpr
   rw [hpr, Bool.and_true] at hR
   rcases hcases with rfl | rfl | rfl | rfl | rfl | ⟨n1, n2, n3, n4, n5⟩
   ·((try simp at hnm); (try simp at ha1); (try simp at ha2); (try simp -implicitDefEqProofs); repeat' first | ((with_reducible first | apply gdK_em | apply cdK_em | apply pickK_em) <;> (intro hc; have hc' := hc; (try simp at hc'); simp -implicitDefEqProofs [hc, hc'])) | (with_reducible apply callK_pure <;> first | (simp only [eras, era, eras_map]; first | with_reducible exact hnm | with_reducible exact ha1 | with_reducible exact ha2 | simpa using hnm | simpa using ha1 | simpa using ha2) | (simp -implicitDefEqProofs)))
    all_goals (subst hR; simp_all <;> (intros; omega))
   ·((try simp at hnm); (try simp at ha1); (try simp at ha2); (try simp -implicitDefEqProofs); repeat' first | ((with_reducible first | apply gdK_em | apply cdK_em | apply pickK_em) <;> (intro hc; have hc' := hc; (try simp at hc'); simp -implicitDefEqProofs [hc, hc'])) | (with_reducible apply callK_pure <;> first | (simp only [eras, era, eras_map]; first | with_reducible exact hnm | with_reducible exact ha1 | with_reducible exact ha2 | simpa using hnm | simpa using ha1 | simpa using ha2) | (simp -implicitDefEqProofs)))
    all_goals (subst hR; simp_all <;> (intros; omega))
   ·((try simp at hnm); (try simp at ha1); (try simp at ha2); (try simp -implicitDefEqProofs); repeat' first | ((with_reducible first | apply gdK_em | apply cdK_em | apply pickK_em) <;> (intro hc; have hc' := hc; (try simp at hc'); simp -implicitDefEqProofs [hc, hc'])) | (with_reducible apply callK_pure <;> first | (simp only [eras, era, eras_map]; first | with_reducible exact hnm | with_reducible exact ha1 | with_reducible exact ha2 | simpa using hnm | simpa using ha1 | simpa using ha2) | (simp -implicitDefEqProofs)))
    all_goals (subst hR; simp_all <;> (intros; omega))
   ·((try simp at hnm); (try simp at ha1); (try simp at ha2); (try simp -implicitDefEqProofs); repeat' first | ((with_reducible first | apply gdK_em | apply cdK_em | apply pickK_em) <;> (intro hc; have hc' := hc; (try simp at hc'); simp -implicitDefEqProofs [hc, hc'])) | (with_reducible apply callK_pure <;> first | (simp only [eras, era, eras_map]; first | with_reducible exact hnm | with_reducible exact ha1 | with_reducible exact ha2 | simpa using hnm | simpa using ha1 | simpa using ha2) | (simp -implicitDefEqProofs)))
    all_goals (subst hR; simp_all <;> (intros; omega))
   ·((try simp at hnm); (try simp at ha1); (try simp at ha2); (try simp -implicitDefEqProofs); repeat' first | ((with_reducible first | apply gdK_em | apply cdK_em | apply pickK_em) <;> (intro hc; have hc' := hc; (try simp at hc'); simp -implicitDefEqProofs [hc, hc'])) | (with_reducible apply callK_pure <;> first | (simp only [eras, era, eras_map]; first | with_reducible exact hnm | with_reducible exact ha1 | with_reducible exact ha2 | simpa using hnm | simpa using ha1 | simpa using ha2) | (simp -implicitDefEqProofs)))
    all_goals (subst hR; simp_all <;> (intros; omega))
   ·have n2' : (kd != 2) = true := by simpa using n2
    ((try simp at hnm); (try simp at ha1); (try simp at ha2); (try simp -implicitDefEqProofs [n1, n2, n2', n3, n4, n5]); repeat' first | ((with_reducible first | apply gdK_em | apply cdK_em | apply pickK_em) <;> (intro hc; have hc' := hc; (try simp at hc'); simp -implicitDefEqProofs [hc, hc', n1, n2, n2', n3, n4, n5])) | (with_reducible apply callK_pure <;> first | (simp only [eras, era, eras_map]; first | with_reducible exact hnm | with_reducible exact ha1 | with_reducible exact ha2 | simpa using hnm | simpa using ha1 | simpa using ha2) | (simp -implicitDefEqProofs [n1, n2, n2', n3, n4, n5])))
    all_goals (subst hR; simp_all <;> (intros; omega))
 ·have hf : (kdB kd && ((xs.length : Int) == argsI kd)) = false := by simpa using hsh
  rw [hf] at hR
  simp only [Bool.false_and] at hR
  subst hR
  have hlen : ((xs.length : Int) != (if kdB kd = true then argsI kd else -1)) = true := by
   split
   ·rename_i hk; rw [hk] at hf; simpa using hf
   ·simp <;> omega
  generalize (if kdB kd = true then argsI kd else -1) = al at *
  (refine Pure.of_code mix Tryz.call78 k_78 (by simp) (fun hB => ?_); (try simp at hB); (try simp -implicitDefEqProofs [qc_78]))
  ((try simp at hargs); (try simp -implicitDefEqProofs [hlen]); repeat' first | (with_reducible apply callK_pure <;> first | (simp only [eras, era, eras_map]; first | with_reducible exact hargs | simpa using hargs) | (simp -implicitDefEqProofs [hlen])))
end Go.Proofs.YtpggidmbnjfmaaaGreatDoor
