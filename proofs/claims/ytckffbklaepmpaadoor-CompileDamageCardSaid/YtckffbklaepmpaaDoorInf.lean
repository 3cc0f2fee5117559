/- Chapter 33: the types of expressions; the reference's Infer. -/
import Derived.Test.YtckffbklaepmpaaDoorSyd
set_option linter.unusedSimpArgs false
set_option linter.unusedVariables false
set_option maxHeartbeats 4000000
set_option maxRecDepth 8000
namespace Go.Proofs.YtckffbklaepmpaaDoor
open E

def opdI (k : Int) : Int := if k = 6 ∨ k = 12 ∨ k = 13 then 2 else 1
def ownI (k : Int) : Int := if k = 6 ∨ k = 12 ∨ k = 13 ∨ (14 ≤ k ∧ k ≤ 19) then 2 else 1
/-- The type and the error of an expression whose operands have a first error e, or a wrong type. -/
def finI (known pair wrong : Bool) (e k f t : Int) : Int × Int :=
  if e ≠ 0 then (0, e) else if wrong = true then (0, 16) else if k = 2 ∧ known = false then (0, 17) else
  if (k = 21 ∨ k = 22) ∧ t < f then (0, 2) else if k = 22 ∧ pair = false then (0, 7) else (ownI k, 0)
namespace Xp
mutual
def inf (q : List UInt8 → Bool) (pair : Bool) : Xp → Int × Int
  | .mk k _ f t n xs => finI (q n) pair (infs q pair (opdI k) xs).2 (infs q pair (opdI k) xs).1 k f t
def infs (q : List UInt8 → Bool) (pair : Bool) (w : Int) : List Xp → Int × Bool
  | [] => (0, false)
  | x :: xs => if (inf q pair x).2 ≠ 0 then ((inf q pair x).2, false) else ((infs q pair w xs).1, ((inf q pair x).1 != w) || (infs q pair w xs).2)
end
end Xp
end Go.Proofs.YtckffbklaepmpaaDoor
