/- Chapter 33: the law CheckTypes (with the example of XAwc). -/
import Derived.Test.YtkapabohpfkcoaaDoorRty
import Derived.Test.YtkapabohpfkcoaaDoorSyg
set_option linter.unusedSimpArgs false
set_option linter.unusedVariables false
set_option maxHeartbeats 4000000
set_option maxRecDepth 8000
namespace Go.Proofs.YtkapabohpfkcoaaDoor
open E

def xA : Xp := .mk 2 0 0 0 [97] []
def xB : Xp := .mk 14 0 0 0 [] [xA, xA]
theorem w_awake : Pure Tryd.prog 16 [] (vB true) := by
  have ca : xA.cnt ≤ 100000 := by decide
  have cb : xB.cnt ≤ 100000 := by decide
  have o1 := w_own32 xA ca
  have o2 := w_own32 xB cb
  have t1 := w_Type xA [] false ca (by decide)
  have t2 := w_Type xB [[97]] false cb (by decide)
  have e1 : typR xA (fun s => decide (s ∈ ([] : List (List UInt8)))) false = (0, 17) := by decide
  have e2 : typR xB (fun s => decide (s ∈ [[97]])) false = (2, 0) := by decide
  rw [e1] at t1
  rw [e2] at t2
  simp only [xA, xB, Xp.v, Xp.c_mk, List.map, vSL] at o1 o2 t1 t2
  (refine Pure.of_code mix Tryd.call16 k_16 (by simp) (fun hB => ?_); (try simp at hB); (try simp -implicitDefEqProofs [c_tallystonelaw33_awake_16]))
  ((try simp at o1); (try simp at o2); (try simp at t1); (try simp at t2); (try simp -implicitDefEqProofs); repeat' first | ((first | with_reducible refine gdK_em (fun hc => ?_) (fun hc => ?_) | with_reducible refine cdK_em (fun hc => ?_) (fun hc => ?_) | with_reducible refine pickK_em (fun hc => ?_) (fun hc => ?_)) <;> (have hc' := hc; (try simp at hc'); simp -implicitDefEqProofs [hc, hc'])) | (with_reducible apply callK_pure <;> first | (simp only [eras, era, eras_map]; first | with_reducible exact o1 | with_reducible exact o2 | with_reducible exact t1 | with_reducible exact t2 | simpa using o1 | simpa using o2 | simpa using t1 | simpa using t2) | (simp -implicitDefEqProofs)))
theorem few1 (x : Xp) : fewB [⟨[], false, [⟨0, 0, [], x⟩], 0⟩] = decide (x.cnt ≤ 200) := by
  simp [fewB, fewR, fewS]
theorem l_types (x : Xp) (names : List (List UInt8)) (pair : Bool) (hok : x.ok) : Pure Tryd.prog 5 [x.v, vSL names, vB pair] (vB true) := by
  have ha := w_awake
  have hf := w_Few [⟨[], false, [⟨0, 0, [], x⟩], 0⟩]
  rw [few1] at hf
  simp only [Rul.l, Rul.c, Stm.c, List.map] at hf
  have hlc := len_c x
  have htc := take_c x
  by_cases hc : x.cnt ≤ 200
  · by_cases hn : names.length ≤ 20
    · have hn' : decide ((20 : Int) < names.length) = false := by simp; omega
      rw [decide_eq_true hc] at hf
      have o1 := w_own32 x (by omega)
      have t1 := w_Type x names pair (by omega) hn
      have t2 := w_TypeR x names pair (by omega) hok
      obtain ⟨L, hL⟩ : ∃ L, L = names.reverse := ⟨_, rfl⟩
      have hLl : L.length = names.length := by rw [hL]; simp
      have t3 := w_Type x L pair (by omega) (by omega)
      (refine Pure.of_code mix Tryd.call5 k_5 (by simp) (fun hB => ?_); (try simp at hB); (try simp -implicitDefEqProofs [c_tallystonelaw33_CheckTypes_5]))
      have e0 : IntKind.i64.wrap ((names.length : Int) - 1) = (names.length : Int) - 1 := wrap64 (by omega) (by omega)
      ((try simp at ha); (try simp at hf); (try simp -implicitDefEqProofs [hlc, htc, hn', e0]); repeat' first | ((first | with_reducible refine gdK_em (fun hc => ?_) (fun hc => ?_) | with_reducible refine cdK_em (fun hc => ?_) (fun hc => ?_) | with_reducible refine pickK_em (fun hc => ?_) (fun hc => ?_)) <;> (have hc' := hc; (try simp at hc'); simp -implicitDefEqProofs [hc, hc', hlc, htc, hn', e0])) | (with_reducible apply callK_pure <;> first | (simp only [eras, era, eras_map]; first | with_reducible exact ha | with_reducible exact hf | simpa using ha | simpa using hf) | (simp -implicitDefEqProofs [hlc, htc, hn', e0])))
      refine loop_grow [(.slot 7, 9, 1)] (X := Nat) (fun j => j ≤ names.length) (fun j => [(1, vSL names), (2, vB pair), (3, .ptr 0 0), (7, .own 0 9 1 ((L.take j).map fun y => [T.str y])), (8, vI ((names.length : Int) - 1 - j))])
        (fun j => ⟨[.cells (x.c.map V.t)], [j]⟩) (fun j => names.length - j) 0 (by omega) (by simp) ?_
      rintro j hj hbd
      clear hbd
      rcases Nat.lt_or_ge j names.length with h | h
      · have c0 : decide ((0 : Int) ≤ (names.length : Int) - 1 - j) = true := by simp; omega
        have c1 : (0 : Int) ≤ (names.length : Int) - 1 - j := by omega
        have c2 : (names.length : Int) - 1 - j < names.length := by omega
        have i1 : ((names.length : Int) - 1 - j).toNat = names.length - 1 - j := by omega
        have hi : names.length - 1 - j < names.length := by omega
        have e3 : IntKind.i64.wrap ((names.length : Int) - 1 - j - 1) = (names.length : Int) - 1 - j - 1 := wrap64 (by omega) (by omega)
        have hx : names[names.length - 1 - j]? = some names[names.length - 1 - j] := by simp [hi]
        have hrx : L[j]? = some names[names.length - 1 - j] := by rw [hL, List.getElem?_reverse h, hx]
        have c3 : (j : Int) ≤ (names.length : Int) - 1 := by omega
        have htk := take_next hrx
        have hmin : min j L.length = j := by omega
        have hap : (L.map (fun y => [T.str y])).take (j + 1) = (L.map (fun y => [T.str y])).take j ++ [[T.str names[names.length - 1 - j]]] := by rw [take_next (x := [T.str names[names.length - 1 - j]]) (by simp [hrx])]
        by_cases hb : 100 < (names[names.length - 1 - j]).length
        · have hb' : decide ((100 : Int) < (names[names.length - 1 - j]).length) = true := by simp; omega
          ((try simp -implicitDefEqProofs [h, c0, c1, c2, c3, i1, hi, e3, hb', hx]); repeat' first | ((first | with_reducible refine gdK_em (fun hc => ?_) (fun hc => ?_) | with_reducible refine cdK_em (fun hc => ?_) (fun hc => ?_) | with_reducible refine pickK_em (fun hc => ?_) (fun hc => ?_)) <;> (have hc' := hc; (try simp at hc'); simp -implicitDefEqProofs [hc, hc', h, c0, c1, c2, c3, i1, hi, e3, hb', hx])))
        · have hb' : decide ((100 : Int) < (names[names.length - 1 - j]).length) = false := by simp; omega
          ((try simp -implicitDefEqProofs [h, c0, c1, c2, c3, i1, hi, e3, hb', hx, hmin, maxLen]); repeat' first | ((first | with_reducible refine gdK_em (fun hc => ?_) (fun hc => ?_) | with_reducible refine cdK_em (fun hc => ?_) (fun hc => ?_) | with_reducible refine pickK_em (fun hc => ?_) (fun hc => ?_)) <;> (have hc' := hc; (try simp at hc'); simp -implicitDefEqProofs [hc, hc', h, c0, c1, c2, c3, i1, hi, e3, hb', hx, hmin, maxLen])))
          exact ⟨⟨by omega, by omega⟩, j + 1, by omega, by omega, rfl, by rw [hap]; exact .inl (.inl rfl), by push_cast; omega⟩
      · have : j = names.length := by omega
        subst this
        have c0 : decide ((0 : Int) ≤ (names.length : Int) - 1 - names.length) = false := by simp; omega
        have ht : L.take names.length = L := List.take_of_length_le (by omega)
        have c3 : ¬ (names.length : Int) ≤ (names.length : Int) - 1 := by omega
        rw [ht]
        have q1 : (fun s => decide (s ∈ L)) = (fun s => decide (s ∈ names)) := by funext s; rw [hL]; simp
        have q2 : inS names = (fun s => decide (s ∈ names)) := by
          funext s
          unfold inS
          rw [Bool.eq_iff_iff]
          simp
        rw [q1] at t3
        rw [q2] at t2
        generalize typR x (fun s => decide (s ∈ names)) pair = r at *
        ((try simp at o1); (try simp at t1); (try simp at t2); (try simp at t3); (try simp -implicitDefEqProofs [hlc, htc, c0, c3]); repeat' first | ((first | with_reducible refine gdK_em (fun hc => ?_) (fun hc => ?_) | with_reducible refine cdK_em (fun hc => ?_) (fun hc => ?_) | with_reducible refine pickK_em (fun hc => ?_) (fun hc => ?_)) <;> (have hc' := hc; (try simp at hc'); simp -implicitDefEqProofs [hc, hc', hlc, htc, c0, c3])) | (with_reducible apply callK_pure <;> first | (simp only [eras, era, eras_map]; first | with_reducible exact o1 | with_reducible exact t1 | with_reducible exact t2 | with_reducible exact t3 | simpa using o1 | simpa using t1 | simpa using t2 | simpa using t3) | (simp -implicitDefEqProofs [hlc, htc, c0, c3])))
    · have hn' : decide ((20 : Int) < names.length) = true := by simp; omega
      rw [decide_eq_true hc] at hf
      (refine Pure.of_code mix Tryd.call5 k_5 (by simp) (fun hB => ?_); (try simp at hB); (try simp -implicitDefEqProofs [c_tallystonelaw33_CheckTypes_5]))
      ((try simp at ha); (try simp at hf); (try simp -implicitDefEqProofs [hlc, htc, hn']); repeat' first | ((first | with_reducible refine gdK_em (fun hc => ?_) (fun hc => ?_) | with_reducible refine cdK_em (fun hc => ?_) (fun hc => ?_) | with_reducible refine pickK_em (fun hc => ?_) (fun hc => ?_)) <;> (have hc' := hc; (try simp at hc'); simp -implicitDefEqProofs [hc, hc', hlc, htc, hn'])) | (with_reducible apply callK_pure <;> first | (simp only [eras, era, eras_map]; first | with_reducible exact ha | with_reducible exact hf | simpa using ha | simpa using hf) | (simp -implicitDefEqProofs [hlc, htc, hn'])))
  · rw [decide_eq_false hc] at hf
    (refine Pure.of_code mix Tryd.call5 k_5 (by simp) (fun hB => ?_); (try simp at hB); (try simp -implicitDefEqProofs [c_tallystonelaw33_CheckTypes_5]))
    ((try simp at ha); (try simp at hf); (try simp -implicitDefEqProofs [hlc, htc]); repeat' first | ((first | with_reducible refine gdK_em (fun hc => ?_) (fun hc => ?_) | with_reducible refine cdK_em (fun hc => ?_) (fun hc => ?_) | with_reducible refine pickK_em (fun hc => ?_) (fun hc => ?_)) <;> (have hc' := hc; (try simp at hc'); simp -implicitDefEqProofs [hc, hc', hlc, htc])) | (with_reducible apply callK_pure <;> first | (simp only [eras, era, eras_map]; first | with_reducible exact ha | with_reducible exact hf | simpa using ha | simpa using hf) | (simp -implicitDefEqProofs [hlc, htc])))
end Go.Proofs.YtkapabohpfkcoaaDoor
