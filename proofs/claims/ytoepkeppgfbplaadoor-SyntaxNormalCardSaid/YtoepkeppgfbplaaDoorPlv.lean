/- Chapter 32: what Print prints. -/
import Derived.Test.YtoepkeppgfbplaaDoorPlx
set_option linter.unusedSimpArgs false
set_option linter.unusedVariables false
set_option maxHeartbeats 1000000
namespace Go.Proofs.YtoepkeppgfbplaaDoor
open E

def stmP (s : Stm) : List Pc :=
 (if s.kind = 1 then [(0, [9]), (1, sLet), sp, (1, s.name), sp, (3, [61]), sp] else if s.kind = 2 then [(0, [9]), (1, sReq), sp] else [(0, [9]), (1, sPost), sp, numP s.acc, sp]) ++ (bare s.ex ++ [(3, [59]), (0, [10])])
def rulP (r : Rul) : List Pc :=
 [(1, sRule), sp, (1, r.name), sp, (1, sEach), sp, (1, if r.pair then sPair else sEnt), sp, (3, [123]), (0, [10])] ++ (r.stmts.flatMap stmP ++ [(0, [9]), (1, sTo), sp, numP r.to, (3, [59]), (0, [10]), (3, [125]), (0, [10])])
def prgP (p : List Rul) : List Pc := p.flatMap rulP
def printR (p : List Rul) : List UInt8 × Int := if prgB p = true then (if 8000 < (txt (prgP p)).length then ([], 6) else (txt (prgP p), 0)) else ([], 1)

theorem txt_append (a b : List Pc) : txt (a ++ b) = txt a ++ txt b := by simp [txt]
theorem txt_cons (p : Pc) (b : List Pc) : txt (p :: b) = p.2 ++ txt b := rfl
end Go.Proofs.YtoepkeppgfbplaaDoor
