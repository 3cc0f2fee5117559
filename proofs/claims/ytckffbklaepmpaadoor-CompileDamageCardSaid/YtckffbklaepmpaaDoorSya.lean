/- Chapter 32: small functions of both sides. -/
import Derived.Test.YtckffbklaepmpaaDoorNam
import Derived.Test.YtckffbklaepmpaaDoorXp
section
set_option linter.unusedSimpArgs false
set_option linter.unusedVariables false
set_option maxHeartbeats 2000000
set_option maxRecDepth 8000
namespace Go.Proofs.YtckffbklaepmpaaDoor
open E

end Go.Proofs.YtckffbklaepmpaaDoor
end

/- Chapter 32: accounts, numbers of operands, depth. -/
section
set_option linter.unusedSimpArgs false
set_option linter.unusedVariables false
set_option maxHeartbeats 2000000
set_option maxRecDepth 8000
namespace Go.Proofs.YtckffbklaepmpaaDoor
open E

def acB (n : Int) : Bool := decide (1 ≤ n) && decide (n ≤ 99999)
theorem w_ac (n : Int) : Pure Tryd.prog 41 [vI n] (vB (acB n)) := by
  unfold acB
  (refine Pure.of_code mix Tryd.call41 k_41 (by simp) (fun hB => ?_); (try simp at hB); (try simp -implicitDefEqProofs [c_syntax_account_41]))
  ((try simp -implicitDefEqProofs); repeat' first | ((first | with_reducible refine gdK_em (fun hc => ?_) (fun hc => ?_) | with_reducible refine cdK_em (fun hc => ?_) (fun hc => ?_) | with_reducible refine pickK_em (fun hc => ?_) (fun hc => ?_)) <;> (have hc' := hc; (try simp at hc'); simp -implicitDefEqProofs [hc, hc'])))
def argsI (k : Int) : Int := if (3 ≤ k ∧ k ≤ 6) ∨ k = 20 then 1 else if 7 ≤ k ∧ k ≤ 19 then 2 else 0
def kdB (k : Int) : Bool := decide (1 ≤ k) && decide (k ≤ 22)
theorem w_args (k : Int) : Pure Tryd.prog 68 [vI k] (vI (argsI k)) := by
  generalize hR : vI (argsI k) = R
  unfold argsI at hR
  (refine Pure.of_code mix Tryd.call68 k_68 (by simp) (fun hB => ?_); (try simp at hB); (try simp -implicitDefEqProofs [c_syntax_args_68]))
  ((try simp -implicitDefEqProofs); repeat' first | ((first | with_reducible refine gdK_em (fun hc => ?_) (fun hc => ?_) | with_reducible refine cdK_em (fun hc => ?_) (fun hc => ?_) | with_reducible refine pickK_em (fun hc => ?_) (fun hc => ?_)) <;> (have hc' := hc; (try simp at hc'); simp -implicitDefEqProofs [hc, hc'])))
  all_goals (subst hR; congr 2; split <;> (try split) <;> (try simp_all) <;> omega)
namespace Xp
mutual
def dep : Xp → Nat
  | .mk _ _ _ _ _ xs => deps xs + 1
def deps : List Xp → Nat
  | [] => 0
  | x :: ys => max (dep x) (deps ys)
end
theorem dep_cnt : ∀ x : Xp, dep x ≤ cnt x := by
  refine ind fun k v f t n xs ih => ?_
  rw [dep, cnt]
  have : ∀ l : List Xp, (∀ a ∈ l, dep a ≤ cnt a) → deps l ≤ cnts l := by
    intro l
    induction l with
    | nil => intro _; simp [deps]
    | cons x l ih2 =>
      intro h
      have h1 := h x (by simp)
      have h2 := ih2 fun a ha => h a (by simp [ha])
      simp only [deps, cnts]
      omega
  have := this xs ih
  omega
theorem deps_append (a b : List Xp) : deps (a ++ b) = max (deps a) (deps b) := by
  induction a with
  | nil => simp [deps]
  | cons x a ih => simp only [List.cons_append, deps, ih]; omega
end Xp
theorem w_Depth : ∀ (x : Xp), x.cnt ≤ 100000 → Pure Tryd.prog 56 [x.v] (vI x.dep) := by
  refine Xp.ind fun kd vl fr to nm xs ih hcnt => ?_
  rw [Xp.cnt] at hcnt
  have hal := Xp.cnts_len xs
  have hdc : Xp.deps xs ≤ 100000 := by
    have := Xp.dep_cnt (.mk kd vl fr to nm xs)
    rw [Xp.dep, Xp.cnt] at this
    omega
  rw [Xp.v, Xp.c_mk, Xp.dep]
  (refine Pure.of_code mix Tryd.call56 k_56 (by simp) (fun hB => ?_); (try simp at hB); (try simp -implicitDefEqProofs [c_syntax_Depth_56]))
  refine loop_rule (X := Nat) (fun k => k ≤ xs.length) (fun k => [(3, vI (Xp.deps (xs.take k))), (7, Xp.l xs), (8, vI xs.length), (9, vI k)])
    (fun k => ⟨[], []⟩) (fun k => xs.length - k) 0 (by omega) (by simp [Xp.deps]) ?_
  rintro k hk hbd
  rcases Nat.lt_or_ge k xs.length with h | h
  · have hx : xs[k]? = some xs[k] := by simp [h]
    have hrec := ih xs[k] (List.getElem_mem h) (by have := Xp.cnts_mem (List.getElem_mem h); omega)
    have e3 : IntKind.i64.wrap ((k : Int) + 1) = (k : Int) + 1 := wrap64 (by omega) (by omega)
    have hrv : Xp.deps (xs.take (k + 1)) = max (Xp.deps (xs.take k)) xs[k].dep := by rw [take_next hx, Xp.deps_append]; simp [Xp.deps]
    have hlc := len_c xs[k]
    have htc := take_c xs[k]
    ((try simp at hrec); (try simp -implicitDefEqProofs [h, e3, hlc, htc]); repeat' first | ((first | with_reducible refine gdK_em (fun hc => ?_) (fun hc => ?_) | with_reducible refine cdK_em (fun hc => ?_) (fun hc => ?_) | with_reducible refine pickK_em (fun hc => ?_) (fun hc => ?_)) <;> (have hc' := hc; (try simp at hc'); simp -implicitDefEqProofs [hc, hc', h, e3, hlc, htc])) | (with_reducible apply callK_pure <;> first | (simp only [eras, era, eras_map]; first | with_reducible exact hrec | simpa using hrec) | (simp -implicitDefEqProofs [h, e3, hlc, htc])))
    exact ⟨k + 1, by omega, by omega, by rw [hrv]; omega, by push_cast; rfl⟩
  · have : k = xs.length := by omega
    subst this
    have e3 : IntKind.i64.wrap ((Xp.deps xs : Int) + 1) = (Xp.deps xs : Int) + 1 := wrap64 (by omega) (by omega)
    ((try simp -implicitDefEqProofs [e3]); repeat' first | ((first | with_reducible refine gdK_em (fun hc => ?_) (fun hc => ?_) | with_reducible refine cdK_em (fun hc => ?_) (fun hc => ?_) | with_reducible refine pickK_em (fun hc => ?_) (fun hc => ?_)) <;> (have hc' := hc; (try simp at hc'); simp -implicitDefEqProofs [hc, hc', e3])))
theorem w_size : ∀ (x : Xp) (m : Nat), 1 ≤ m → m ≤ 1000 → Pure Tryd.prog 27 [x.v, vI m] (vI (min x.cnt m : Nat)) := by
  refine Xp.ind fun kd vl fr to nm xs ih m hm1 hm2 => ?_
  have e1m : min 1 m = 1 := by omega
  rw [Xp.v, Xp.c_mk, Xp.cnt]
  (refine Pure.of_code mix Tryd.call27 k_27 (by simp) (fun hB => ?_); (try simp at hB); (try simp -implicitDefEqProofs [c_tallystoneref32_size_27]))
  refine loop_rule (X := Nat) (fun k => k ≤ xs.length ∧ k ≤ m) (fun k => [(1, vI m), (2, .ptr 0 0), (5, vI (min (1 + Xp.cnts (xs.take k)) m : Nat)), (6, vI k)])
    (fun k => ⟨[.cells [vI kd, vI vl, vI fr, vI to, vS nm, Xp.l xs]], []⟩) (fun k => xs.length - k) 0 (by omega) (by simp [Xp.cnts, e1m]) ?_
  rintro k ⟨hk, hkm⟩ hbd
  have hlk := Xp.cnts_len (xs.take k)
  rw [List.length_take] at hlk
  generalize hn : min (1 + Xp.cnts (xs.take k)) m = n at *
  rcases Nat.lt_or_ge k xs.length with h | h
  · have hx : xs[k]? = some xs[k] := by simp [h]
    have hsum : Xp.cnts xs = Xp.cnts (xs.take k) + (xs[k].cnt + Xp.cnts (xs.drop (k + 1))) := by
      conv => lhs; rw [← List.take_append_drop k xs, Xp.cnts_append, List.drop_eq_getElem_cons h]
      rfl
    by_cases hnm : n < m
    · have hrec := ih xs[k] (List.getElem_mem h) (m - n) (by omega) (by omega)
      have e1 : IntKind.i64.wrap ((m : Int) - n) = ((m - n : Nat) : Int) := by rw [wrap64 (by omega) (by omega)]; omega
      have e2 : IntKind.i64.wrap ((n : Int) + ((min xs[k].cnt (m - n) : Nat) : Int)) = (n : Int) + ((min xs[k].cnt (m - n) : Nat) : Int) := wrap64 (by omega) (by omega)
      have e3 : IntKind.i64.wrap ((k : Int) + 1) = (k : Int) + 1 := wrap64 (by omega) (by omega)
      have hrv : Xp.cnts (xs.take (k + 1)) = Xp.cnts (xs.take k) + xs[k].cnt := by rw [take_next hx, Xp.cnts_append]; simp [Xp.cnts]
      have hlc := len_c xs[k]
      have htc := take_c xs[k]
      have hs : min (1 + Xp.cnts (xs.take (k + 1))) m = n + min xs[k].cnt (m - n) := by rw [hrv]; omega
      generalize min xs[k].cnt (m - n) = z at *
      ((try simp at hrec); (try simp -implicitDefEqProofs [h, hnm, e1, e2, e3, hlc, htc]); repeat' first | ((first | with_reducible refine gdK_em (fun hc => ?_) (fun hc => ?_) | with_reducible refine cdK_em (fun hc => ?_) (fun hc => ?_) | with_reducible refine pickK_em (fun hc => ?_) (fun hc => ?_)) <;> (have hc' := hc; (try simp at hc'); simp -implicitDefEqProofs [hc, hc', h, hnm, e1, e2, e3, hlc, htc])) | (with_reducible apply callK_pure <;> first | (simp only [eras, era, eras_map]; first | with_reducible exact hrec | simpa using hrec) | (simp -implicitDefEqProofs [h, hnm, e1, e2, e3, hlc, htc])))
      exact ⟨k + 1, ⟨by omega, by omega⟩, by omega, by rw [hs]; push_cast; rfl, by push_cast; rfl⟩
    · have hfin : min (1 + Xp.cnts xs) m = n := by omega
      rw [hfin]
      ((try simp -implicitDefEqProofs [h, hnm]); repeat' first | ((first | with_reducible refine gdK_em (fun hc => ?_) (fun hc => ?_) | with_reducible refine cdK_em (fun hc => ?_) (fun hc => ?_) | with_reducible refine pickK_em (fun hc => ?_) (fun hc => ?_)) <;> (have hc' := hc; (try simp at hc'); simp -implicitDefEqProofs [hc, hc', h, hnm])))
  · have : k = xs.length := by omega
    subst this
    rw [List.take_length] at hn
    rw [hn]
    ((try simp -implicitDefEqProofs [hn]); repeat' first | ((first | with_reducible refine gdK_em (fun hc => ?_) (fun hc => ?_) | with_reducible refine cdK_em (fun hc => ?_) (fun hc => ?_) | with_reducible refine pickK_em (fun hc => ?_) (fun hc => ?_)) <;> (have hc' := hc; (try simp at hc'); simp -implicitDefEqProofs [hc, hc', hn])))
end Go.Proofs.YtckffbklaepmpaaDoor
end
