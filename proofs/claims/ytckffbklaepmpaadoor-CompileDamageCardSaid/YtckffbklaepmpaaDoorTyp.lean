/- Chapter 33: check.settle. -/
import Derived.Test.YtckffbklaepmpaaDoorExq
import Derived.Test.YtckffbklaepmpaaDoorSyf
section
set_option linter.unusedSimpArgs false
set_option linter.unusedVariables false
set_option maxHeartbeats 4000000
set_option maxRecDepth 8000
namespace Go.Proofs.YtckffbklaepmpaaDoor
open E

theorem w_settle0 (b : Nat) (B : List Bx) (hle : ∀ n m, B.length ≤ n → LeBs n m B B) : FnS Tryd.prog 47 [.ptr b 0, .t .nili] ⟨B, []⟩ (.tup []) ⟨B, []⟩ := by
  have h0 := hle B.length 0 (Nat.le_refl _)
  (refine FnS.of_code mix Tryd.call47 k_47 (by simp) (fun hB => ?_); (try simp at hB); (try simp -implicitDefEqProofs [c_check_settle_47]))
  ((try simp -implicitDefEqProofs [h0]); repeat' first | ((first | with_reducible refine gdK_em (fun hc => ?_) (fun hc => ?_) | with_reducible refine cdK_em (fun hc => ?_) (fun hc => ?_) | with_reducible refine pickK_em (fun hc => ?_) (fun hc => ?_)) <;> (have hc' := hc; (try simp at hc'); simp -implicitDefEqProofs [hc, hc', h0])))
theorem w_settle1 (b : Nat) (B : List Bx) (e0 e : Int) (hb : B[b]? = some (.cells [vI e0])) (hle : ∀ n m, B.length ≤ n → LeBs n m (B.set b (.cells [vI e])) (B.set b (.cells [vI e]))) : FnS Tryd.prog 47 [.ptr b 0, mistV e] ⟨B, []⟩ (.tup []) ⟨B.set b (.cells [vI e]), []⟩ := by
  have h0 := hle B.length 0 (Nat.le_refl _)
  unfold mistV
  (refine FnS.of_code mix Tryd.call47 k_47 (by simp) (fun hB => ?_); (try simp at hB); (try simp -implicitDefEqProofs [c_check_settle_47]))
  ((try simp -implicitDefEqProofs [h0, hb]); repeat' first | ((first | with_reducible refine gdK_em (fun hc => ?_) (fun hc => ?_) | with_reducible refine cdK_em (fun hc => ?_) (fun hc => ?_) | with_reducible refine pickK_em (fun hc => ?_) (fun hc => ?_)) <;> (have hc' := hc; (try simp at hc'); simp -implicitDefEqProofs [hc, hc', h0, hb])))
end Go.Proofs.YtckffbklaepmpaaDoor
end

/- Chapter 33: check.Type (begun). -/
section
set_option linter.unusedSimpArgs false
set_option linter.unusedVariables false
set_option maxHeartbeats 4000000
set_option maxRecDepth 8000
namespace Go.Proofs.YtckffbklaepmpaaDoor
open E

theorem aset_setOf_mem {α : Type} [DecidableEq α] {l : List α} {k : α} (h : k ∈ l) : aset (setOf l) k true = setOf l := by
  induction l with
  | nil => cases h
  | cons x l ih =>
    simp only [setOf, List.map_cons, aset] at ih ⊢
    by_cases hx : k = x
    · subst hx; rw [if_pos rfl]
    · rw [if_neg hx, ih ((List.mem_cons.1 h).resolve_left hx)]
def typB (x : Xp) : Bool := decide (x.dep ≤ 30) && x.prop
theorem w_infErr (x : Xp) (pair : Bool) (q : List UInt8 → Bool) (he : (x.inf q pair).2 ≠ 0) : (x.inf q pair).1 = 0 := by
  obtain ⟨k, v, f, t, n, xs⟩ := x
  rw [Xp.inf] at he ⊢
  unfold finI at he ⊢
  (repeat' split) <;> simp_all
end Go.Proofs.YtckffbklaepmpaaDoor
end

/- Chapter 33: both Types. -/
section
set_option linter.unusedSimpArgs false
set_option linter.unusedVariables false
set_option maxHeartbeats 4000000
set_option maxRecDepth 8000
namespace Go.Proofs.YtckffbklaepmpaaDoor
open E

theorem prg1 (c : UInt8) (x : Xp) (hc : nameB [c] = true) : prgB [⟨[c], false, [⟨2, 0, [], x⟩], 1⟩] = typB x := by
  simp [prgB, rulB, hc, acB, stmB, shdB, typB]
/-- The type and the error. -/
def typR (x : Xp) (q : List UInt8 → Bool) (pair : Bool) : Int × Int := if typB x = true then x.inf q pair else (0, 1)
end Go.Proofs.YtckffbklaepmpaaDoor
end
