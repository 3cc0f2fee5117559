/- Chapter 33: check.settle. -/
import Derived.Test.YtpggidmbnjfmaaaGreatDoorExp
import Derived.Test.YtpggidmbnjfmaaaGreatDoorSyf
import Derived.Test.YtpggidmbnjfmaaaGreatDoorCht
section
section
set_option linter.unusedSimpArgs false
set_option linter.unusedVariables false
set_option maxHeartbeats 4000000
set_option maxRecDepth 8000
namespace Go.Proofs.YtpggidmbnjfmaaaGreatDoor
open E

theorem w_settle0 (b : Nat) (B : List Bx) (hle : ∀ n m, B.length ≤ n → LeBs n m B B) : FnS Tryz.prog 89 [.ptr b 0, .t .nili] ⟨B, []⟩ (.tup []) ⟨B, []⟩ := by
 have h0 := hle B.length 0 (Nat.le_refl _)
 (refine FnS.of_code mix Tryz.call89 k_89 (by simp) (fun hB => ?_); (try simp at hB); (try simp -implicitDefEqProofs [qc_89]))
 ((try simp -implicitDefEqProofs [h0]); repeat' first | ((with_reducible first | apply gdK_em | apply cdK_em | apply pickK_em) <;> (intro hc; have hc' := hc; (try simp at hc'); simp -implicitDefEqProofs [hc, hc', h0])))
theorem w_settle1 (b : Nat) (B : List Bx) (e0 e : Int) (hb : B[b]? = some (.cells [vI e0])) (hle : ∀ n m, B.length ≤ n → LeBs n m (B.set b (.cells [vI e])) (B.set b (.cells [vI e]))) : FnS Tryz.prog 89 [.ptr b 0, mistV e] ⟨B, []⟩ (.tup []) ⟨B.set b (.cells [vI e]), []⟩ := by
 have h0 := hle B.length 0 (Nat.le_refl _)
 unfold mistV
 (refine FnS.of_code mix Tryz.call89 k_89 (by simp) (fun hB => ?_); (try simp at hB); (try simp -implicitDefEqProofs [qc_89]))
 ((try simp -implicitDefEqProofs [h0, hb]); repeat' first | ((with_reducible first | apply gdK_em | apply cdK_em | apply pickK_em) <;> (intro hc; have hc' := hc; (try simp at hc'); simp -implicitDefEqProofs [hc, hc', h0, hb])))
end Go.Proofs.YtpggidmbnjfmaaaGreatDoor
end

/- Chapter 33: check.Type (begun). -/
section
set_option linter.unusedSimpArgs false
set_option linter.unusedVariables false
set_option maxHeartbeats 4000000
set_option maxRecDepth 8000
namespace Go.Proofs.YtpggidmbnjfmaaaGreatDoor
open E

end Go.Proofs.YtpggidmbnjfmaaaGreatDoor
end

/- Chapter 33: both Types. -/
section
set_option linter.unusedSimpArgs false
set_option linter.unusedVariables false
set_option maxHeartbeats 4000000
set_option maxRecDepth 8000
namespace Go.Proofs.YtpggidmbnjfmaaaGreatDoor
open E

end Go.Proofs.YtpggidmbnjfmaaaGreatDoor
end
end

/- Chapter 33: what Check says: the errors of statements, rules and programs. -/
section
set_option linter.unusedSimpArgs false
set_option linter.unusedVariables false
set_option maxHeartbeats 1000000
set_option maxRecDepth 8000
namespace Go.Proofs.YtpggidmbnjfmaaaGreatDoor
open E

def namesOf (ss : List Stm) : List (List UInt8) := (ss.filter fun s => s.kind == 1).map (·.name)
def stmE (known : Int → Bool) (q : List UInt8 → Bool) (pair : Bool) (s : Stm) : Int :=
 if (s.ex.inf q pair).2 ≠ 0 then (s.ex.inf q pair).2 else if ((s.ex.inf q pair).1 == 2) != (s.kind == 2) then 16 else
 if s.kind = 1 ∧ q s.name = true then 9 else if s.kind = 3 ∧ known s.acc = false then 8 else 0
def memB (M : List (List UInt8)) : List UInt8 → Bool := fun s => decide (s ∈ M)
def stmsE (known : Int → Bool) (pair : Bool) : List (List UInt8) → List Stm → Int
 | _, [] => 0
 | M, s :: ss => if stmE known (memB M) pair s ≠ 0 then stmE known (memB M) pair s else stmsE known pair (M ++ namesOf [s]) ss
def rulE (known : Int → Bool) (r : Rul) : Int := if stmsE known r.pair [] r.stmts ≠ 0 then stmsE known r.pair [] r.stmts else if known r.to = true then 0 else 8
def rulsE (known : Int → Bool) : List (List UInt8) → Nat → List Rul → Int × Int
 | _, _, [] => (0, 0)
 | M, i, r :: rs => if r.name ∈ M then ((i : Int), 9) else if rulE known r ≠ 0 then ((i : Int), rulE known r) else rulsE known (M ++ [r.name]) (i + 1) rs
def knownB (l : List Account) (code : Int) : Bool := (Cht.findS l code).isSome
def chkR (p : List Rul) (l : List Account) : Int × Int := if prgB p = true ∧ Cht.validR l true = true then rulsE (knownB l) [] 0 p else (0, 1)

theorem namesOf_next {ss : List Stm} {k : Nat} {s : Stm} (h : ss[k]? = some s) : namesOf (ss.take (k + 1)) = namesOf (ss.take k) ++ namesOf [s] := by
 rw [take_next h]; simp [namesOf]
theorem stmsE_at {known : Int → Bool} {pair : Bool} {M : List (List UInt8)} {ss : List Stm} {k : Nat} {s : Stm} (h : ss[k]? = some s) :
  stmsE known pair M (ss.drop k) = if stmE known (memB M) pair s ≠ 0 then stmE known (memB M) pair s else stmsE known pair (M ++ namesOf [s]) (ss.drop (k + 1)) := by
 obtain ⟨hlt, rfl⟩ := List.getElem?_eq_some_iff.1 h
 rw [List.drop_eq_getElem_cons hlt, stmsE]
theorem rulsE_at {known : Int → Bool} {M : List (List UInt8)} {i : Nat} {p : List Rul} {k : Nat} {r : Rul} (h : p[k]? = some r) :
  rulsE known M i (p.drop k) = if r.name ∈ M then ((i : Int), 9) else if rulE known r ≠ 0 then ((i : Int), rulE known r) else rulsE known (M ++ [r.name]) (i + 1) (p.drop (k + 1)) := by
 obtain ⟨hlt, rfl⟩ := List.getElem?_eq_some_iff.1 h
 rw [List.drop_eq_getElem_cons hlt, rulsE]
end Go.Proofs.YtpggidmbnjfmaaaGreatDoor
end
