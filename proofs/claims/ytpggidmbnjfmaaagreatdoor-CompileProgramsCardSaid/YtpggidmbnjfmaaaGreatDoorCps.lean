/- Chapter 34: what Compile returns, and plain laws of it: the codes are valid, and not without one of their instructions. -/
import Derived.Test.YtpggidmbnjfmaaaGreatDoorMea
import Derived.Test.YtpggidmbnjfmaaaGreatDoorTyp
set_option linter.unusedSimpArgs false
set_option linter.unusedVariables false
set_option maxHeartbeats 1000000
set_option maxRecDepth 4000
namespace Go.Proofs.YtpggidmbnjfmaaaGreatDoor
open E

def opOf (k : Int) : Int := if k = 1 then 1 else if k = 2 then 2 else if k = 3 then 5 else if k = 4 then 6 else if k = 5 then 7 else if k = 6 then 8 else if k = 20 then 9 else if k = 21 then 3 else if k = 22 then 4 else k + 3
def idxF (s : List UInt8) : Nat → List (List UInt8) → Int → Int
 | _, [], c => c
 | i, y :: l, c => idxF s (i + 1) l (if y = s then (i : Int) else c)
def idxN (M : List (List UInt8)) (s : List UInt8) : Int := idxF s 0 M 0
def lastX (M : List (List UInt8)) (k v f t : Int) (n : List UInt8) : Ins :=
 if k = 1 then ⟨1, v, 0⟩ else if k = 2 then ⟨2, idxN M n, 0⟩ else if k = 20 then ⟨9, v, 0⟩ else if k = 21 then ⟨3, f, t⟩ else if k = 22 then ⟨4, f, t⟩ else ⟨opOf k, 0, 0⟩
namespace Xp
mutual
def codeX (M : List (List UInt8)) : Xp → List Ins
 | .mk k v f t n xs => codesX M xs ++ [lastX M k v f t n]
def codesX (M : List (List UInt8)) : List Xp → List Ins
 | [] => []
 | x :: xs => codeX M x ++ codesX M xs
end
theorem codesX_flat (M : List (List UInt8)) (l : List Xp) : codesX M l = l.flatMap (codeX M) := by
 induction l with
 | nil => rfl
 | cons x l ih => rw [codesX, ih]; rfl
mutual
theorem codeX_len (M : List (List UInt8)) : ∀ x : Xp, (codeX M x).length = cnt x
 | .mk k v f t n xs => by rw [codeX, cnt, List.length_append, codesX_len M xs]; simp; omega
theorem codesX_len (M : List (List UInt8)) : ∀ xs : List Xp, (codesX M xs).length = cnts xs
 | [] => rfl
 | x :: xs => by rw [codesX, cnts, List.length_append, codeX_len M x, codesX_len M xs]
end
end Xp
def lastS (M : List (List UInt8)) (s : Stm) : Ins := if s.kind = 1 then ⟨23, M.length, 0⟩ else if s.kind = 2 then ⟨24, 0, 0⟩ else ⟨25, s.acc, 0⟩
def codeSs : List (List UInt8) → List Stm → List Ins
 | _, [] => []
 | M, s :: ss => (s.ex.codeX M ++ [lastS M s]) ++ codeSs (M ++ namesOf [s]) ss
def codeR (r : Rul) : Code := ⟨r.name, r.pair, codeSs [] r.stmts ++ [⟨26, r.to, 0⟩]⟩
def cmpR (p : List Rul) (l : List Account) : List Code × Int × Int := if (chkR p l).2 = 0 then (p.map codeR, 0, 0) else ([], (chkR p l).1, (chkR p l).2)

theorem codeSs_next {M : List (List UInt8)} {ss : List Stm} {k : Nat} {s : Stm} (h : ss[k]? = some s) : codeSs M (ss.take (k + 1)) = codeSs M (ss.take k) ++ (s.ex.codeX (M ++ namesOf (ss.take k)) ++ [lastS (M ++ namesOf (ss.take k)) s]) := by
 induction ss generalizing M k with
 | nil => simp at h
 | cons y ss ih =>
  cases k with
  | zero =>
   simp at h
   subst h
   simp [codeSs, namesOf]
  | succ k =>
   have h' : ss[k]? = some s := by simpa using h
   rw [List.take_succ_cons, codeSs, List.take_succ_cons, codeSs, ih h']
   have e : M ++ namesOf [y] ++ namesOf (ss.take k) = M ++ namesOf (y :: ss.take k) := by
    rw [List.append_assoc]; congr 1
    unfold namesOf
    rw [← List.map_append, ← List.filter_append]; rfl
   rw [e]
   simp only [List.append_assoc]
def cntS (ss : List Stm) : Nat := (ss.map fun s => s.ex.cnt).sum
theorem codeSs_len : ∀ (ss : List Stm) (M : List (List UInt8)), (codeSs M ss).length = ss.length + cntS ss
 | [], M => rfl
 | s :: ss, M => by
  rw [codeSs, List.length_append, List.length_append, Xp.codeX_len, codeSs_len ss]
  simp [cntS]; omega
theorem codeR_len (r : Rul) : (codeR r).ins.length = 1 + r.stmts.length + cntS r.stmts := by
 simp only [codeR, List.length_append, codeSs_len, List.length_cons, List.length_nil]; omega

namespace Xp
theorem props_mem {l : List Xp} (h : props l = true) : ∀ x ∈ l, prop x = true := by
 rw [props_all] at h
 intro x hx
 cases hb : prop x
 ·rw [List.any_eq_true.2 ⟨x, hx, by simp [hb]⟩] at h; cases h
 ·rfl
end Xp
end Go.Proofs.YtpggidmbnjfmaaaGreatDoor
