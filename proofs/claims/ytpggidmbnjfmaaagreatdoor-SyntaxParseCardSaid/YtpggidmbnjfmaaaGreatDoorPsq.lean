/- Chapter 32: equality of programs: slices.EqualFunc, sameExpr, sameStmt, Same. Printed by gen_eqf.py. -/
import Derived.Test.YtpggidmbnjfmaaaGreatDoorSye
import Derived.Test.YtpggidmbnjfmaaaGreatDoorCodeD
set_option linter.unusedSimpArgs false
set_option linter.unusedVariables false
set_option maxHeartbeats 4000000
set_option maxRecDepth 8000
namespace Go.Proofs.YtpggidmbnjfmaaaGreatDoor
open E

noncomputable def eqv {A : Type} (x y : A) : Bool := @decide (x = y) (Classical.propDecidable _)
theorem eqv_iff {A : Type} {x y : A} : eqv x y = true ↔ x = y := by unfold eqv; simp
theorem eqv_self {A : Type} (x : A) : eqv x x = true := eqv_iff.2 rfl
theorem eqv_no {A : Type} {x y : A} (h : x ≠ y) : eqv x y = false := by
 cases hq : eqv x y
 ·rfl
 ·exact absurd (eqv_iff.1 hq) h
theorem eqv_ne {A : Type} {x y : A} (h : eqv x y = false) : x ≠ y := by
 rintro rfl
 rw [eqv_self] at h
 cases h
theorem eqv_take {A : Type} {l m : List A} {k : Nat} (h1 : k < l.length) (h2 : k < m.length) (ht : l.take k = m.take k) (he : l[k] = m[k]) : l.take (k + 1) = m.take (k + 1) := by
 rw [take_next (x := l[k]) (by simp [h1]), take_next (x := m[k]) (by simp [h2]), ht, he]
theorem eqv_at {A : Type} {l m : List A} {k : Nat} (h1 : k < l.length) (h2 : k < m.length) (he : l[k] ≠ m[k]) : l ≠ m := by
 rintro rfl
 exact he rfl

theorem w_EqfX (l m : List Xp) (f : Nat) (h : ∀ x ∈ l, ∀ y, Pure Tryz.prog f [Xp.v x, Xp.v y] (vB (eqv x y))) :
  Pure Tryz.prog 121 [Xp.l l, Xp.l m, .fn (.func f) []] (vB (eqv l m)) := by
 generalize hR : eqv l m = R
 (refine Pure.of_code mix Tryz.call121 k_121 (by simp) (fun hB => ?_); (try simp at hB); (try simp -implicitDefEqProofs [qc_121]))
 have hB2 : m.length ≤ maxLen := hB.2.1
 by_cases hlen : l.length = m.length
 ·(try simp -implicitDefEqProofs [hlen])
  refine loop_rule (X := Nat) (fun k => k ≤ m.length ∧ l.take k = m.take k) (fun k => [(0, Xp.l l), (1, Xp.l m), (2, .fn (.func f) []), (15, Xp.l l), (16, vI m.length), (17, vI k)]) (fun _ => St0) (fun k => m.length - k) 0 ⟨by simp, by simp⟩ (by simp [hlen]) ?_
  rintro k ⟨hk, hn⟩ hbd
  rcases Nat.lt_or_ge k m.length with hlt | hge
  ·have hlt' : k < l.length := by omega
   have e3 : IntKind.i64.wrap ((k : Int) + 1) = (k : Int) + 1 := wrap64 (by omega) (by simp [maxLen] at hB2; omega)
   have hc := h l[k] (List.getElem_mem hlt') m[k]
   have hlc := len_c l[k]
   have htc := take_c l[k]
   have hlc' := len_c m[k]
   have htc' := take_c m[k]
   cases hq : eqv l[k] m[k]
   ·rw [hq] at hc
    rw [eqv_no (eqv_at hlt' hlt (eqv_ne hq))] at hR
    subst hR
    ((try simp at hc); (try simp -implicitDefEqProofs [hlt, hlt', e3, hlc, htc, hlc', htc', hlen]); repeat' first | (with_reducible apply callK_pure <;> first | (simp only [eras, era, eras_map]; first | with_reducible exact hc | simpa using hc) | (simp -implicitDefEqProofs [hlt, hlt', e3, hlc, htc, hlc', htc', hlen])))
   ·rw [hq] at hc
    ((try simp at hc); (try simp -implicitDefEqProofs [hlt, hlt', e3, hlc, htc, hlc', htc', hlen]); repeat' first | (with_reducible apply callK_pure <;> first | (simp only [eras, era, eras_map]; first | with_reducible exact hc | simpa using hc) | (simp -implicitDefEqProofs [hlt, hlt', e3, hlc, htc, hlc', htc', hlen])))
    exact ⟨k + 1, ⟨by omega, eqv_take hlt' hlt hn (eqv_iff.1 hq)⟩, by omega, by push_cast; rfl⟩
  ·have hke : k = m.length := by omega
   subst hke
   have hlm : l = m := by
    rw [List.take_length, ← hlen, List.take_length] at hn
    exact hn
   subst hlm
   rw [eqv_self] at hR
   subst hR
   (try simp -implicitDefEqProofs)
 ·rw [eqv_no (fun h => hlen (by rw [h]))] at hR
  subst hR
  have hz : ((l.length : Int) == m.length) = false := by simp; omega
  ((try simp -implicitDefEqProofs [hlen, hz]); repeat' first | ((with_reducible first | apply gdK_em | apply cdK_em | apply pickK_em) <;> (intro hc; have hc' := hc; (try simp at hc'); simp -implicitDefEqProofs [hc, hc', hlen, hz])))
  exact absurd (by omega : l.length = m.length) hlen

theorem w_EqfS (l m : List Stm) (f : Nat) (h : ∀ x ∈ l, ∀ y, Pure Tryz.prog f [Stm.v x, Stm.v y] (vB (eqv x y))) :
  Pure Tryz.prog 35 [Stm.l l, Stm.l m, .fn (.func f) []] (vB (eqv l m)) := by
 generalize hR : eqv l m = R
 (refine Pure.of_code mix Tryz.call35 k_35 (by simp) (fun hB => ?_); (try simp at hB); (try simp -implicitDefEqProofs [qc_35]))
 have hB2 : m.length ≤ maxLen := hB.2.1
 by_cases hlen : l.length = m.length
 ·(try simp -implicitDefEqProofs [hlen])
  refine loop_rule (X := Nat) (fun k => k ≤ m.length ∧ l.take k = m.take k) (fun k => [(0, Stm.l l), (1, Stm.l m), (2, .fn (.func f) []), (15, Stm.l l), (16, vI m.length), (17, vI k)]) (fun _ => St0) (fun k => m.length - k) 0 ⟨by simp, by simp⟩ (by simp [hlen]) ?_
  rintro k ⟨hk, hn⟩ hbd
  rcases Nat.lt_or_ge k m.length with hlt | hge
  ·have hlt' : k < l.length := by omega
   have e3 : IntKind.i64.wrap ((k : Int) + 1) = (k : Int) + 1 := wrap64 (by omega) (by simp [maxLen] at hB2; omega)
   have hc := h l[k] (List.getElem_mem hlt') m[k]
   have hlc := len_sc l[k]
   have htc := take_sc l[k]
   have hlc' := len_sc m[k]
   have htc' := take_sc m[k]
   cases hq : eqv l[k] m[k]
   ·rw [hq] at hc
    rw [eqv_no (eqv_at hlt' hlt (eqv_ne hq))] at hR
    subst hR
    ((try simp at hc); (try simp -implicitDefEqProofs [hlt, hlt', e3, hlc, htc, hlc', htc', hlen]); repeat' first | (with_reducible apply callK_pure <;> first | (simp only [eras, era, eras_map]; first | with_reducible exact hc | simpa using hc) | (simp -implicitDefEqProofs [hlt, hlt', e3, hlc, htc, hlc', htc', hlen])))
   ·rw [hq] at hc
    ((try simp at hc); (try simp -implicitDefEqProofs [hlt, hlt', e3, hlc, htc, hlc', htc', hlen]); repeat' first | (with_reducible apply callK_pure <;> first | (simp only [eras, era, eras_map]; first | with_reducible exact hc | simpa using hc) | (simp -implicitDefEqProofs [hlt, hlt', e3, hlc, htc, hlc', htc', hlen])))
    exact ⟨k + 1, ⟨by omega, eqv_take hlt' hlt hn (eqv_iff.1 hq)⟩, by omega, by push_cast; rfl⟩
  ·have hke : k = m.length := by omega
   subst hke
   have hlm : l = m := by
    rw [List.take_length, ← hlen, List.take_length] at hn
    exact hn
   subst hlm
   rw [eqv_self] at hR
   subst hR
   (try simp -implicitDefEqProofs)
 ·rw [eqv_no (fun h => hlen (by rw [h]))] at hR
  subst hR
  have hz : ((l.length : Int) == m.length) = false := by simp; omega
  ((try simp -implicitDefEqProofs [hlen, hz]); repeat' first | ((with_reducible first | apply gdK_em | apply cdK_em | apply pickK_em) <;> (intro hc; have hc' := hc; (try simp at hc'); simp -implicitDefEqProofs [hc, hc', hlen, hz])))
  exact absurd (by omega : l.length = m.length) hlen

theorem w_EqfR (l m : List Rul) (f : Nat) (h : ∀ x ∈ l, ∀ y, Pure Tryz.prog f [Rul.v x, Rul.v y] (vB (eqv x y))) :
  Pure Tryz.prog 33 [Rul.l l, Rul.l m, .fn (.func f) []] (vB (eqv l m)) := by
 generalize hR : eqv l m = R
 (refine Pure.of_code mix Tryz.call33 k_33 (by simp) (fun hB => ?_); (try simp at hB); (try simp -implicitDefEqProofs [qc_33]))
 have hB2 : m.length ≤ maxLen := hB.2.1
 by_cases hlen : l.length = m.length
 ·(try simp -implicitDefEqProofs [hlen])
  refine loop_rule (X := Nat) (fun k => k ≤ m.length ∧ l.take k = m.take k) (fun k => [(0, Rul.l l), (1, Rul.l m), (2, .fn (.func f) []), (15, Rul.l l), (16, vI m.length), (17, vI k)]) (fun _ => St0) (fun k => m.length - k) 0 ⟨by simp, by simp⟩ (by simp [hlen]) ?_
  rintro k ⟨hk, hn⟩ hbd
  rcases Nat.lt_or_ge k m.length with hlt | hge
  ·have hlt' : k < l.length := by omega
   have e3 : IntKind.i64.wrap ((k : Int) + 1) = (k : Int) + 1 := wrap64 (by omega) (by simp [maxLen] at hB2; omega)
   have hc := h l[k] (List.getElem_mem hlt') m[k]
   have hlc := len_rc l[k]
   have htc := take_rc l[k]
   have hlc' := len_rc m[k]
   have htc' := take_rc m[k]
   cases hq : eqv l[k] m[k]
   ·rw [hq] at hc
    rw [eqv_no (eqv_at hlt' hlt (eqv_ne hq))] at hR
    subst hR
    ((try simp at hc); (try simp -implicitDefEqProofs [hlt, hlt', e3, hlc, htc, hlc', htc', hlen]); repeat' first | (with_reducible apply callK_pure <;> first | (simp only [eras, era, eras_map]; first | with_reducible exact hc | simpa using hc) | (simp -implicitDefEqProofs [hlt, hlt', e3, hlc, htc, hlc', htc', hlen])))
   ·rw [hq] at hc
    ((try simp at hc); (try simp -implicitDefEqProofs [hlt, hlt', e3, hlc, htc, hlc', htc', hlen]); repeat' first | (with_reducible apply callK_pure <;> first | (simp only [eras, era, eras_map]; first | with_reducible exact hc | simpa using hc) | (simp -implicitDefEqProofs [hlt, hlt', e3, hlc, htc, hlc', htc', hlen])))
    exact ⟨k + 1, ⟨by omega, eqv_take hlt' hlt hn (eqv_iff.1 hq)⟩, by omega, by push_cast; rfl⟩
  ·have hke : k = m.length := by omega
   subst hke
   have hlm : l = m := by
    rw [List.take_length, ← hlen, List.take_length] at hn
    exact hn
   subst hlm
   rw [eqv_self] at hR
   subst hR
   (try simp -implicitDefEqProofs)
 ·rw [eqv_no (fun h => hlen (by rw [h]))] at hR
  subst hR
  have hz : ((l.length : Int) == m.length) = false := by simp; omega
  ((try simp -implicitDefEqProofs [hlen, hz]); repeat' first | ((with_reducible first | apply gdK_em | apply cdK_em | apply pickK_em) <;> (intro hc; have hc' := hc; (try simp at hc'); simp -implicitDefEqProofs [hc, hc', hlen, hz])))
  exact absurd (by omega : l.length = m.length) hlen


theorem w_sameX : ∀ (x y : Xp), Pure Tryz.prog 79 [x.v, y.v] (vB (eqv x y)) := by
 refine Xp.ind fun kd vl fr to nm xs ih => ?_
 intro y
 obtain ⟨kd', vl', fr', to', nm', ys⟩ := y
 have hq := w_EqfX xs ys 79 (fun x hx => ih x hx)
 rw [Xp.v, Xp.c_mk, Xp.v, Xp.c_mk]
 by_cases h1 : kd = kd'
 ·by_cases h2 : vl = vl'
  ·by_cases h3 : fr = fr'
   ·by_cases h4 : to = to'
    ·by_cases h5 : nm = nm'
     ·subst h1 h2 h3 h4 h5
      have he : eqv (Xp.mk kd vl fr to nm xs) (Xp.mk kd vl fr to nm ys) = eqv xs ys := by
       rw [Bool.eq_iff_iff, eqv_iff, eqv_iff]; simp
      rw [he]
      generalize eqv xs ys = e at *
      (refine Pure.of_code mix Tryz.call79 k_79 (by simp) (fun hB => ?_); (try simp at hB); (try simp -implicitDefEqProofs [qc_79]))
      ((try simp at hq); (try simp -implicitDefEqProofs); repeat' first | (with_reducible apply callK_pure <;> first | (simp only [eras, era, eras_map]; first | with_reducible exact hq | simpa using hq) | (simp -implicitDefEqProofs)))
     ·rw [eqv_no (fun h => h5 (by injection h))]
      (refine Pure.of_code mix Tryz.call79 k_79 (by simp) (fun hB => ?_); (try simp at hB); (try simp -implicitDefEqProofs [qc_79]))
      have hz : (nm == nm') = false := by simp [h5]
      (try simp -implicitDefEqProofs [h1, h2, h3, h4, h5, hz])
    ·rw [eqv_no (fun h => h4 (by injection h))]
     (refine Pure.of_code mix Tryz.call79 k_79 (by simp) (fun hB => ?_); (try simp at hB); (try simp -implicitDefEqProofs [qc_79]))
     have hz : (to == to') = false := by simp [h4]
     (try simp -implicitDefEqProofs [h1, h2, h3, h4, hz])
   ·rw [eqv_no (fun h => h3 (by injection h))]
    (refine Pure.of_code mix Tryz.call79 k_79 (by simp) (fun hB => ?_); (try simp at hB); (try simp -implicitDefEqProofs [qc_79]))
    have hz : (fr == fr') = false := by simp [h3]
    (try simp -implicitDefEqProofs [h1, h2, h3, hz])
  ·rw [eqv_no (fun h => h2 (by injection h))]
   (refine Pure.of_code mix Tryz.call79 k_79 (by simp) (fun hB => ?_); (try simp at hB); (try simp -implicitDefEqProofs [qc_79]))
   have hz : (vl == vl') = false := by simp [h2]
   (try simp -implicitDefEqProofs [h1, h2, hz])
 ·rw [eqv_no (fun h => h1 (by injection h))]
  (refine Pure.of_code mix Tryz.call79 k_79 (by simp) (fun hB => ?_); (try simp at hB); (try simp -implicitDefEqProofs [qc_79]))
  have hz : (kd == kd') = false := by simp [h1]
  (try simp -implicitDefEqProofs [h1, hz])
theorem w_sameS (x y : Stm) : Pure Tryz.prog 36 [x.v, y.v] (vB (eqv x y)) := by
 obtain ⟨kd, ac, nm, ex⟩ := x
 obtain ⟨kd', ac', nm', ex'⟩ := y
 have hq := w_sameX ex ex'
 have hlc := len_c ex
 have htc := take_c ex
 have hlc' := len_c ex'
 have htc' := take_c ex'
 by_cases h1 : kd = kd'
 ·by_cases h2 : ac = ac'
  ·by_cases h5 : nm = nm'
   ·subst h1 h2 h5
    have he : eqv (Stm.mk kd ac nm ex) (Stm.mk kd ac nm ex') = eqv ex ex' := by
     rw [Bool.eq_iff_iff, eqv_iff, eqv_iff]; simp
    rw [he]
    generalize eqv ex ex' = e at *
    (refine Pure.of_code mix Tryz.call36 k_36 (by simp) (fun hB => ?_); (try simp at hB); (try simp -implicitDefEqProofs [qc_36]))
    ((try simp at hq); (try simp -implicitDefEqProofs [hlc, htc, hlc', htc', Stm.c]); repeat' first | (with_reducible apply callK_pure <;> first | (simp only [eras, era, eras_map]; first | with_reducible exact hq | simpa using hq) | (simp -implicitDefEqProofs [hlc, htc, hlc', htc', Stm.c])))
   ·rw [eqv_no (fun h => h5 (by injection h))]
    (refine Pure.of_code mix Tryz.call36 k_36 (by simp) (fun hB => ?_); (try simp at hB); (try simp -implicitDefEqProofs [qc_36]))
    have hz : (nm == nm') = false := by simp [h5]
    (try simp -implicitDefEqProofs [hlc, htc, hlc', htc', Stm.c, h1, h2, h5, hz])
  ·rw [eqv_no (fun h => h2 (by injection h))]
   (refine Pure.of_code mix Tryz.call36 k_36 (by simp) (fun hB => ?_); (try simp at hB); (try simp -implicitDefEqProofs [qc_36]))
   have hz : (ac == ac') = false := by simp [h2]
   (try simp -implicitDefEqProofs [hlc, htc, hlc', htc', Stm.c, h1, h2, hz])
 ·rw [eqv_no (fun h => h1 (by injection h))]
  (refine Pure.of_code mix Tryz.call36 k_36 (by simp) (fun hB => ?_); (try simp at hB); (try simp -implicitDefEqProofs [qc_36]))
  have hz : (kd == kd') = false := by simp [h1]
  (try simp -implicitDefEqProofs [hlc, htc, hlc', htc', Stm.c, h1, hz])
theorem w_sameR (x y : Rul) : Pure Tryz.prog 34 [x.v, y.v] (vB (eqv x y)) := by
  obtain ⟨nm, pr, ss, to⟩ := x
  obtain ⟨nm', pr', ss', to'⟩ := y
  have hq := w_EqfS ss ss' 36 (fun x _ y => w_sameS x y)
  by_cases h1 : nm = nm'
  · by_cases h2 : pr = pr'
    · by_cases h5 : to = to'
      · subst h1 h2 h5
        have he : eqv (Rul.mk nm pr ss to) (Rul.mk nm pr ss' to) = eqv ss ss' := by
          rw [Bool.eq_iff_iff, eqv_iff, eqv_iff]; simp
        rw [he]
        generalize eqv ss ss' = e at *
        cases pr <;> ((refine Pure.of_code mix Tryz.call34 k_34 (by simp) (fun hB => ?_); (try simp at hB); (try simp -implicitDefEqProofs [qc_34]))
                      ((try simp at hq); (try simp -implicitDefEqProofs [Rul.c]); repeat' first | (with_reducible apply callK_pure <;> first | (simp only [eras, era, eras_map]; first | with_reducible exact hq | simpa using hq) | (simp -implicitDefEqProofs [Rul.c]))))
      · rw [eqv_no (fun h => h5 (by injection h))]
        subst h1 h2
        have hz : (to == to') = false := by simp [h5]
        cases pr <;> ((refine Pure.of_code mix Tryz.call34 k_34 (by simp) (fun hB => ?_); (try simp at hB); (try simp -implicitDefEqProofs [qc_34]))
                      (try simp -implicitDefEqProofs [Rul.c, h5, hz]))
    · rw [eqv_no (fun h => h2 (by injection h))]
      cases pr <;> cases pr' <;> first | exact absurd rfl h2 | ((refine Pure.of_code mix Tryz.call34 k_34 (by simp) (fun hB => ?_); (try simp at hB); (try simp -implicitDefEqProofs [qc_34]))
                                                                (try simp -implicitDefEqProofs [Rul.c, h1]))
  · rw [eqv_no (fun h => h1 (by injection h))]
    have hz : (nm == nm') = false := by simp [h1]
    (refine Pure.of_code mix Tryz.call34 k_34 (by simp) (fun hB => ?_); (try simp at hB); (try simp -implicitDefEqProofs [qc_34]))
    (try simp -implicitDefEqProofs [Rul.c, h1, hz])
theorem w_Same (p q : List Rul) : Pure Tryz.prog 15 [Rul.l p, Rul.l q] (vB (eqv p q)) := by
 have hq := w_EqfR p q 34 (fun x _ y => w_sameR x y)
 generalize eqv p q = e at *
 (refine Pure.of_code mix Tryz.call15 k_15 (by simp) (fun hB => ?_); (try simp at hB); (try simp -implicitDefEqProofs [qc_15]))
 ((try simp at hq); (try simp -implicitDefEqProofs); repeat' first | (with_reducible apply callK_pure <;> first | (simp only [eras, era, eras_map]; first | with_reducible exact hq | simpa using hq) | (simp -implicitDefEqProofs)))
end Go.Proofs.YtpggidmbnjfmaaaGreatDoor
