/- Chapter 33: both Types. -/
import Derived.Test.YtkapabohpfkcoaaDoorTyq
set_option linter.unusedSimpArgs false
set_option linter.unusedVariables false
set_option maxHeartbeats 4000000
set_option maxRecDepth 8000
namespace Go.Proofs.YtkapabohpfkcoaaDoor
open E

theorem prg1 (c : UInt8) (x : Xp) (hc : nameB [c] = true) : prgB [⟨[c], false, [⟨2, 0, [], x⟩], 1⟩] = typB x := by
  simp [prgB, rulB, hc, acB, stmB, shdB, typB]
/-- The type and the error. -/
def typR (x : Xp) (q : List UInt8 → Bool) (pair : Bool) : Int × Int := if typB x = true then x.inf q pair else (0, 1)
theorem w_Type (x : Xp) (names : List (List UInt8)) (pair : Bool) (hc : x.cnt ≤ 100000) (hn : names.length ≤ 20) : Pure Tryd.prog 18 [x.v, vSL names, vB pair] (.tup [vI (typR x (fun s => decide (s ∈ names)) pair).1, vI (typR x (fun s => decide (s ∈ names)) pair).2]) := by
  have h1 := prg1 114 x (by decide)
  unfold typR
  cases ht : typB x
  · rw [if_neg (by simp)]
    exact w_TypeN x names pair hc (by rw [h1, ht])
  · rw [if_pos rfl]
    have hp : x.prop = true := by unfold typB at ht; rw [Bool.and_eq_true] at ht; exact ht.2
    exact w_TypeV x names pair hc (by rw [h1, ht]) hp hn
theorem w_TypeR (x : Xp) (names : List (List UInt8)) (pair : Bool) (hc : x.cnt ≤ 100000) (hok : x.ok) : Pure Tryd.prog 20 [x.v, vSL names, vB pair] (.tup [vI (typR x (inS names) pair).1, vI (typR x (inS names) pair).2]) := by
  have hval := w_ValidR [⟨[97], false, [⟨2, 0, [], x⟩], 1⟩] (by intro r hr; simp at hr; subst hr; exact ⟨by simp [maxLen], fun s hs => by simp at hs; subst hs; exact ⟨by simp, hok⟩⟩) (by intro r hr s hs; simp at hr; subst hr; simp at hs; subst hs; exact hc)
  rw [prg1 97 x (by decide)] at hval
  simp only [Rul.l, Rul.c, Stm.c, List.map] at hval
  have hinf := w_Infer names pair x
  have hlc := len_c x
  have htc := take_c x
  unfold typR
  cases ht : typB x
  · rw [ht] at hval
    rw [if_neg (by simp)]
    (refine Pure.of_code mix Tryd.call20 k_20 (by simp) (fun hB => ?_); (try simp at hB); (try simp -implicitDefEqProofs [c_tallystoneref33_Type_20]))
    ((try simp at hval); (try simp at hinf); (try simp -implicitDefEqProofs [hlc, htc]); repeat' first | ((first | with_reducible refine gdK_em (fun hc => ?_) (fun hc => ?_) | with_reducible refine cdK_em (fun hc => ?_) (fun hc => ?_) | with_reducible refine pickK_em (fun hc => ?_) (fun hc => ?_)) <;> (have hc' := hc; (try simp at hc'); simp -implicitDefEqProofs [hc, hc', hlc, htc])) | (with_reducible apply callK_pure <;> first | (simp only [eras, era, eras_map]; first | with_reducible exact hval | with_reducible exact hinf | simpa using hval | simpa using hinf) | (simp -implicitDefEqProofs [hlc, htc])))
  · rw [ht] at hval
    rw [if_pos rfl]
    generalize x.inf (inS names) pair = r at *
    (refine Pure.of_code mix Tryd.call20 k_20 (by simp) (fun hB => ?_); (try simp at hB); (try simp -implicitDefEqProofs [c_tallystoneref33_Type_20]))
    ((try simp at hval); (try simp at hinf); (try simp -implicitDefEqProofs [hlc, htc]); repeat' first | ((first | with_reducible refine gdK_em (fun hc => ?_) (fun hc => ?_) | with_reducible refine cdK_em (fun hc => ?_) (fun hc => ?_) | with_reducible refine pickK_em (fun hc => ?_) (fun hc => ?_)) <;> (have hc' := hc; (try simp at hc'); simp -implicitDefEqProofs [hc, hc', hlc, htc])) | (with_reducible apply callK_pure <;> first | (simp only [eras, era, eras_map]; first | with_reducible exact hval | with_reducible exact hinf | simpa using hval | simpa using hinf) | (simp -implicitDefEqProofs [hlc, htc])))
end Go.Proofs.YtkapabohpfkcoaaDoor
