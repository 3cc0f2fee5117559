/- Chapter 33: the types of expressions; the reference's Infer. -/
import Derived.Test.YtpggidmbnjfmaaaGreatDoorSyd
import Derived.Test.YtpggidmbnjfmaaaGreatDoorCodeC
set_option linter.unusedSimpArgs false
set_option linter.unusedVariables false
set_option maxHeartbeats 4000000
set_option maxRecDepth 8000
namespace Go.Proofs.YtpggidmbnjfmaaaGreatDoor
open E

def opdI (k : Int) : Int := if k = 6 ∨ k = 12 ∨ k = 13 then 2 else 1
def ownI (k : Int) : Int := if k = 6 ∨ k = 12 ∨ k = 13 ∨ (14 ≤ k ∧ k ≤ 19) then 2 else 1
def finI (known pair wrong : Bool) (e k f t : Int) : Int × Int :=
 if e ≠ 0 then (0, e) else if wrong = true then (0, 16) else if k = 2 ∧ known = false then (0, 17) else
 if (k = 21 ∨ k = 22) ∧ t < f then (0, 2) else if k = 22 ∧ pair = false then (0, 7) else (ownI k, 0)
namespace Xp
mutual
def inf (q : List UInt8 → Bool) (pair : Bool) : Xp → Int × Int
 | .mk k _ f t n xs => finI (q n) pair (infs q pair (opdI k) xs).2 (infs q pair (opdI k) xs).1 k f t
def infs (q : List UInt8 → Bool) (pair : Bool) (w : Int) : List Xp → Int × Bool
 | [] => (0, false)
 | x :: xs => if (inf q pair x).2 ≠ 0 then ((inf q pair x).2, false) else ((infs q pair w xs).1, ((inf q pair x).1 != w) || (infs q pair w xs).2)
end
end Xp
theorem w_kind (k : Int) : Pure Tryz.prog 129 [vI k] (.tup [vI (ownI k), vI (opdI k)]) := by
 generalize hR : V.tup [vI (ownI k), vI (opdI k)] = R
 unfold ownI opdI at hR
 by_cases h1 : k = 6
 ·subst h1; subst hR
  (refine Pure.of_code mix Tryz.call129 k_129 (by simp) (fun hB => ?_); (try simp at hB); (try simp -implicitDefEqProofs [qc_129]))
  ((try simp -implicitDefEqProofs); repeat' first | ((with_reducible first | apply gdK_em | apply cdK_em | apply pickK_em) <;> (intro hc; have hc' := hc; (try simp at hc'); simp -implicitDefEqProofs [hc, hc'])))
 by_cases h2 : k = 12
 ·subst h2; subst hR
  (refine Pure.of_code mix Tryz.call129 k_129 (by simp) (fun hB => ?_); (try simp at hB); (try simp -implicitDefEqProofs [qc_129]))
  ((try simp -implicitDefEqProofs); repeat' first | ((with_reducible first | apply gdK_em | apply cdK_em | apply pickK_em) <;> (intro hc; have hc' := hc; (try simp at hc'); simp -implicitDefEqProofs [hc, hc'])))
 by_cases h3 : k = 13
 ·subst h3; subst hR
  (refine Pure.of_code mix Tryz.call129 k_129 (by simp) (fun hB => ?_); (try simp at hB); (try simp -implicitDefEqProofs [qc_129]))
  ((try simp -implicitDefEqProofs); repeat' first | ((with_reducible first | apply gdK_em | apply cdK_em | apply pickK_em) <;> (intro hc; have hc' := hc; (try simp at hc'); simp -implicitDefEqProofs [hc, hc'])))
 have n1 : (k == 6) = false := by simpa using h1
 have n2 : (k == 12) = false := by simpa using h2
 have n3 : (k == 13) = false := by simpa using h3
 rw [if_neg (show ¬ (k = 6 ∨ k = 12 ∨ k = 13) by omega)] at hR
 by_cases h4 : 14 ≤ k ∧ k ≤ 19
 ·rw [if_pos (by omega)] at hR
  subst hR
  obtain ⟨a, b⟩ := h4
  (refine Pure.of_code mix Tryz.call129 k_129 (by simp) (fun hB => ?_); (try simp at hB); (try simp -implicitDefEqProofs [qc_129]))
  ((try simp -implicitDefEqProofs [n1, n2, n3, a, b]); repeat' first | ((with_reducible first | apply gdK_em | apply cdK_em | apply pickK_em) <;> (intro hc; have hc' := hc; (try simp at hc'); simp -implicitDefEqProofs [hc, hc', n1, n2, n3, a, b])))
 ·rw [if_neg (by omega)] at hR
  subst hR
  by_cases a : 14 ≤ k
  ·have b : ¬ k ≤ 19 := fun h => h4 ⟨a, h⟩
   (refine Pure.of_code mix Tryz.call129 k_129 (by simp) (fun hB => ?_); (try simp at hB); (try simp -implicitDefEqProofs [qc_129]))
   ((try simp -implicitDefEqProofs [n1, n2, n3, a, b]); repeat' first | ((with_reducible first | apply gdK_em | apply cdK_em | apply pickK_em) <;> (intro hc; have hc' := hc; (try simp at hc'); simp -implicitDefEqProofs [hc, hc', n1, n2, n3, a, b])))
  ·(refine Pure.of_code mix Tryz.call129 k_129 (by simp) (fun hB => ?_); (try simp at hB); (try simp -implicitDefEqProofs [qc_129]))
   ((try simp -implicitDefEqProofs [n1, n2, n3, a]); repeat' first | ((with_reducible first | apply gdK_em | apply cdK_em | apply pickK_em) <;> (intro hc; have hc' := hc; (try simp at hc'); simp -implicitDefEqProofs [hc, hc', n1, n2, n3, a])))
theorem w_Infer (names : List (List UInt8)) (pair : Bool) : ∀ (x : Xp), Pure Tryz.prog 94 [x.v, vSL names, vB pair] (.tup [vI (x.inf (inS names) pair).1, vI (x.inf (inS names) pair).2]) := by
 refine Xp.ind fun kd vl fr to nm xs ih => ?_
 have hkind := w_kind kd
 have hin := w_In names nm
 rw [Xp.inf]
 rw [Xp.v, Xp.c_mk]
 generalize hq : inS names = q at *
 generalize hqn : q nm = qn at *
 generalize hr0 : Xp.infs q pair (opdI kd) xs = r0 at *
 generalize hR : finI qn pair r0.2 r0.1 kd fr to = R at *
 generalize hop : opdI kd = w at *
 generalize how : ownI kd = ow at *
 (refine Pure.of_code mix Tryz.call94 k_94 (by simp) (fun hB => ?_); (try simp at hB); (try simp -implicitDefEqProofs [qc_94]))
 ((try simp at hkind); (try simp -implicitDefEqProofs); repeat' first | ((with_reducible first | apply gdK_em | apply cdK_em | apply pickK_em) <;> (intro hc; have hc' := hc; (try simp at hc'); simp -implicitDefEqProofs [hc, hc'])) | (with_reducible apply callK_pure <;> first | (simp only [eras, era, eras_map]; first | with_reducible exact hkind | simpa using hkind) | (simp -implicitDefEqProofs)))
 refine loop_rule (X := Nat × Bool) (fun X => X.1 ≤ xs.length ∧ (Xp.infs q pair w (xs.drop X.1)).1 = r0.1 ∧ (r0.1 = 0 → (X.2 || (Xp.infs q pair w (xs.drop X.1)).2) = r0.2)) (fun X => [(1, vSL names), (2, vB pair), (3, .ptr 0 0), (8, vI ow), (9, vI w), (10, vB X.2), (11, vI X.1)]) (fun _ => ⟨[.cells [vI kd, vI vl, vI fr, vI to, vS nm, Xp.l xs]], []⟩) (fun X => xs.length - X.1) (0, false) ⟨by simp, by simp [hr0], by simp [hr0]⟩ (by simp) ?_
 rintro ⟨k, wr⟩ ⟨hk, h1, h2⟩ hbd
 simp only [] at hk h1 h2
 clear hbd
 rcases Nat.lt_or_ge k xs.length with h | h
 ·have hx : xs[k]? = some xs[k] := by simp [h]
  have hrec := ih xs[k] (List.getElem_mem h)
  have e3 : IntKind.i64.wrap ((k : Int) + 1) = (k : Int) + 1 := wrap64 (by omega) (by simp [maxLen] at hB; omega)
  have hlc := len_c xs[k]
  have htc := take_c xs[k]
  rw [List.drop_eq_getElem_cons h, Xp.infs] at h1 h2
  generalize hix : Xp.inf q pair xs[k] = ix at *
  obtain ⟨it, ie⟩ := ix
  simp only [] at h1 h2 hrec
  by_cases he : ie = 0
  ·rw [if_neg (by simpa using he)] at h1 h2
   simp only [] at h1 h2
   have he' : (ie != 0) = false := by simpa using he
   cases wr
   ·((try simp at hrec); (try simp -implicitDefEqProofs [h, e3, hlc, htc, he']); repeat' first | ((with_reducible first | apply gdK_em | apply cdK_em | apply pickK_em) <;> (intro hc; have hc' := hc; (try simp at hc'); simp -implicitDefEqProofs [hc, hc', h, e3, hlc, htc, he'])) | (with_reducible apply callK_pure <;> first | (simp only [eras, era, eras_map]; first | with_reducible exact hrec | simpa using hrec) | (simp -implicitDefEqProofs [h, e3, hlc, htc, he'])))
    have hp1 : ((k + 1 : Nat) : Int) = (k : Int) + 1 := by push_cast; rfl
    by_cases hw : it = w
    ·have hw' : (it != w) = false := by simpa using hw
     exact ⟨k + 1, .inl ⟨⟨by omega, h1, by simpa [hw'] using h2⟩, by omega, hw, hp1⟩⟩
    ·have hw' : (it != w) = true := by simpa using hw
     exact ⟨k + 1, .inr ⟨⟨by omega, h1, fun h => by have := h2 h; simpa [hw'] using this.symm⟩, by omega, hw, hp1⟩⟩
   ·((try simp at hrec); (try simp -implicitDefEqProofs [h, e3, hlc, htc, he']); repeat' first | ((with_reducible first | apply gdK_em | apply cdK_em | apply pickK_em) <;> (intro hc; have hc' := hc; (try simp at hc'); simp -implicitDefEqProofs [hc, hc', h, e3, hlc, htc, he'])) | (with_reducible apply callK_pure <;> first | (simp only [eras, era, eras_map]; first | with_reducible exact hrec | simpa using hrec) | (simp -implicitDefEqProofs [h, e3, hlc, htc, he'])))
    exact ⟨k + 1, ⟨by omega, h1, fun h => by have := h2 h; simpa using this.symm⟩, by omega, by push_cast; rfl⟩
  ·rw [if_pos he] at h1
   simp only [] at h1
   have he' : (ie != 0) = true := by simpa using he
   rw [← h1] at hR
   unfold finI at hR
   rw [if_pos he] at hR
   subst hR
   ((try simp at hrec); (try simp -implicitDefEqProofs [h, e3, hlc, htc, he']); repeat' first | ((with_reducible first | apply gdK_em | apply cdK_em | apply pickK_em) <;> (intro hc; have hc' := hc; (try simp at hc'); simp -implicitDefEqProofs [hc, hc', h, e3, hlc, htc, he'])) | (with_reducible apply callK_pure <;> first | (simp only [eras, era, eras_map]; first | with_reducible exact hrec | simpa using hrec) | (simp -implicitDefEqProofs [h, e3, hlc, htc, he'])))
 ·have : k = xs.length := by omega
  subst this
  simp only [List.drop_length, Xp.infs] at h1 h2
  have h2 := h2 h1.symm
  simp only [Bool.or_false] at h2
  rw [← h1, ← h2] at hR
  unfold finI at hR
  rw [if_neg (by simp)] at hR
  cases wr
  ·rw [if_neg (by simp)] at hR
   have hcases : kd = 2 ∨ kd = 21 ∨ kd = 22 ∨ ((kd == 2) = false ∧ (kd == 21) = false ∧ (kd == 22) = false) := by
    simp only [beq_eq_false_iff_ne, ne_eq]; omega
   rcases hcases with rfl | rfl | rfl | ⟨n1, n2, n3⟩
   ·cases qn
    ·subst hR
     ((try simp at hin); (try simp -implicitDefEqProofs); repeat' first | ((with_reducible first | apply gdK_em | apply cdK_em | apply pickK_em) <;> (intro hc; have hc' := hc; (try simp at hc'); simp -implicitDefEqProofs [hc, hc'])) | (with_reducible apply callK_pure <;> first | (simp only [eras, era, eras_map]; first | with_reducible exact hin | simpa using hin) | (simp -implicitDefEqProofs)))
    ·rw [how] at hR
     subst hR
     ((try simp at hin); (try simp -implicitDefEqProofs); repeat' first | ((with_reducible first | apply gdK_em | apply cdK_em | apply pickK_em) <;> (intro hc; have hc' := hc; (try simp at hc'); simp -implicitDefEqProofs [hc, hc'])) | (with_reducible apply callK_pure <;> first | (simp only [eras, era, eras_map]; first | with_reducible exact hin | simpa using hin) | (simp -implicitDefEqProofs)))
   ·rw [how] at hR
    by_cases hft : to < fr
    ·have hft' : decide (to < fr) = true := by simpa using hft
     rw [if_neg (by simp), if_pos ⟨.inl rfl, hft⟩] at hR
     subst hR
     ((try simp at hin); (try simp -implicitDefEqProofs [hft']); repeat' first | ((with_reducible first | apply gdK_em | apply cdK_em | apply pickK_em) <;> (intro hc; have hc' := hc; (try simp at hc'); simp -implicitDefEqProofs [hc, hc', hft'])) | (with_reducible apply callK_pure <;> first | (simp only [eras, era, eras_map]; first | with_reducible exact hin | simpa using hin) | (simp -implicitDefEqProofs [hft'])))
    ·have hft' : decide (to < fr) = false := by simpa using hft
     rw [if_neg (by simp), if_neg (fun h => hft h.2), if_neg (by simp)] at hR
     subst hR
     ((try simp at hin); (try simp -implicitDefEqProofs [hft']); repeat' first | ((with_reducible first | apply gdK_em | apply cdK_em | apply pickK_em) <;> (intro hc; have hc' := hc; (try simp at hc'); simp -implicitDefEqProofs [hc, hc', hft'])) | (with_reducible apply callK_pure <;> first | (simp only [eras, era, eras_map]; first | with_reducible exact hin | simpa using hin) | (simp -implicitDefEqProofs [hft'])))
   ·rw [how] at hR
    by_cases hft : to < fr
    ·have hft' : decide (to < fr) = true := by simpa using hft
     rw [if_neg (by simp), if_pos ⟨.inr rfl, hft⟩] at hR
     subst hR
     ((try simp at hin); (try simp -implicitDefEqProofs [hft']); repeat' first | ((with_reducible first | apply gdK_em | apply cdK_em | apply pickK_em) <;> (intro hc; have hc' := hc; (try simp at hc'); simp -implicitDefEqProofs [hc, hc', hft'])) | (with_reducible apply callK_pure <;> first | (simp only [eras, era, eras_map]; first | with_reducible exact hin | simpa using hin) | (simp -implicitDefEqProofs [hft'])))
    ·have hft' : decide (to < fr) = false := by simpa using hft
     rw [if_neg (by simp), if_neg (fun h => hft h.2)] at hR
     cases pair
     ·subst hR
      ((try simp at hin); (try simp -implicitDefEqProofs [hft']); repeat' first | ((with_reducible first | apply gdK_em | apply cdK_em | apply pickK_em) <;> (intro hc; have hc' := hc; (try simp at hc'); simp -implicitDefEqProofs [hc, hc', hft'])) | (with_reducible apply callK_pure <;> first | (simp only [eras, era, eras_map]; first | with_reducible exact hin | simpa using hin) | (simp -implicitDefEqProofs [hft'])))
     ·subst hR
      ((try simp at hin); (try simp -implicitDefEqProofs [hft']); repeat' first | ((with_reducible first | apply gdK_em | apply cdK_em | apply pickK_em) <;> (intro hc; have hc' := hc; (try simp at hc'); simp -implicitDefEqProofs [hc, hc', hft'])) | (with_reducible apply callK_pure <;> first | (simp only [eras, era, eras_map]; first | with_reducible exact hin | simpa using hin) | (simp -implicitDefEqProofs [hft'])))
   ·have m1 : ¬ kd = 2 := by simpa using n1
    have m2 : ¬ kd = 21 := by simpa using n2
    have m3 : ¬ kd = 22 := by simpa using n3
    rw [if_neg (fun h => m1 h.1), if_neg (fun h => h.1.elim m2 m3), if_neg (fun h => m3 h.1), how] at hR
    subst hR
    ((try simp at hin); (try simp -implicitDefEqProofs [n1, n2, n3]); repeat' first | ((with_reducible first | apply gdK_em | apply cdK_em | apply pickK_em) <;> (intro hc; have hc' := hc; (try simp at hc'); simp -implicitDefEqProofs [hc, hc', n1, n2, n3])) | (with_reducible apply callK_pure <;> first | (simp only [eras, era, eras_map]; first | with_reducible exact hin | simpa using hin) | (simp -implicitDefEqProofs [n1, n2, n3])))
  ·rw [if_pos rfl] at hR
   subst hR
   ((try simp at hin); (try simp -implicitDefEqProofs); repeat' first | ((with_reducible first | apply gdK_em | apply cdK_em | apply pickK_em) <;> (intro hc; have hc' := hc; (try simp at hc'); simp -implicitDefEqProofs [hc, hc'])) | (with_reducible apply callK_pure <;> first | (simp only [eras, era, eras_map]; first | with_reducible exact hin | simpa using hin) | (simp -implicitDefEqProofs)))
end Go.Proofs.YtpggidmbnjfmaaaGreatDoor
