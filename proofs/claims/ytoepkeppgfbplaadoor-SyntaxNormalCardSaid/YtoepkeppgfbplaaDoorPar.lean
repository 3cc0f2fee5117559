/- Chapter 32: what the parser does, on the list of tokens that are still to come: plain definitions, enough fuel. -/
import Derived.Test.YtoepkeppgfbplaaDoorIdx
import Derived.Test.YtoepkeppgfbplaaDoorIdf
set_option linter.unusedSimpArgs false
set_option linter.unusedVariables false
set_option maxHeartbeats 1000000
namespace Go.Proofs.YtoepkeppgfbplaaDoor
open E

inductive Rd (α : Type) where
 | ok (x : α) (r : List Tok)
 | er (r : List Tok)
namespace Rd
def rest {α : Type} : Rd α → List Tok
 | .ok _ r => r
 | .er r => r
def bnd {α β : Type} : Rd α → (α → List Tok → Rd β) → Rd β
 | .ok x r, f => f x r
 | .er r, _ => .er r
end Rd
def bndO {α β : Type} : Option (Rd α) → (α → List Tok → Option (Rd β)) → Option (Rd β)
 | some (.ok x r), f => f x r
 | some (.er r), _ => some (.er r)
 | none, _ => none
def hdT : List Tok → List UInt8
 | [] => []
 | t :: _ => t.text
def kdT : List Tok → Int
 | [] => 0
 | t :: _ => t.kind
def wantT (s : List UInt8) (ts : List Tok) : Rd Unit := if hdT ts = s then .ok () ts.tail else .er ts
def wantsT : List (List UInt8) → List Tok → Rd Unit
 | [], ts => .ok () ts
 | s :: l, ts => (wantT s ts).bnd fun _ r => wantsT l r
def nameT : List Tok → Rd (List UInt8)
 | [] => .er []
 | t :: r => if t.kind = 1 ∧ kwB t.text = false then .ok t.text r else .er (t :: r)
def numT (least most : Int) : List Tok → Rd Int
 | [] => .er []
 | t :: r => if (valR t.kind t.text).2 = true ∧ least ≤ (valR t.kind t.text).1 ∧ (valR t.kind t.text).1 ≤ most then .ok (valR t.kind t.text).1 r else .er (t :: r)
def accT : List Tok → Rd Int := numT 1 99999
def sRule : List UInt8 := [114, 117, 108, 101]
def sEach : List UInt8 := [101, 97, 99, 104]
def sEnt : List UInt8 := [101, 110, 116, 105, 116, 121]
def sPair : List UInt8 := [112, 97, 105, 114]
def sLet : List UInt8 := [108, 101, 116]
def sReq : List UInt8 := [114, 101, 113, 117, 105, 114, 101]
def sPost : List UInt8 := [112, 111, 115, 116]
def sTo : List UInt8 := [116, 111]
def sPer : List UInt8 := [112, 101, 114]
def sAnd : List UInt8 := [97, 110, 100]
def sOr : List UInt8 := [111, 114]
def sNot : List UInt8 := [110, 111, 116]
def sMin : List UInt8 := [109, 105, 110]
def sMax : List UInt8 := [109, 97, 120]
def sAbs : List UInt8 := [97, 98, 115]
def sShare : List UInt8 := [115, 104, 97, 114, 101]
def sBal : List UInt8 := [98, 97, 108, 97, 110, 99, 101]
def sPart : List UInt8 := [112, 97, 114, 116, 110, 101, 114]
def opT (k : Nat) (s : List UInt8) : Option Int :=
 match k with
 | 1 => if s = sOr then some 13 else none
 | 2 => if s = sAnd then some 12 else none
 | 4 => if s = [60] then some 14 else if s = [60, 61] then some 15 else if s = [61] then some 16 else if s = [33, 61] then some 17 else if s = [62, 61] then some 18 else if s = [62] then some 19 else none
 | 5 => if s = [43] then some 7 else if s = [45] then some 8 else none
 | 6 => if s = [42] then some 9 else none
 | _ => none
def one (k : Int) (x : Xp) : Xp := .mk k 0 0 0 [] [x]
def two (k : Int) (x y : Xp) : Xp := .mk k 0 0 0 [] [x, y]
def perX (v : Int) (x : Xp) : Xp := .mk 20 v 0 0 [] [x]
inductive Job where
 | lev (k : Nat)
 | lp (k : Nat) (x : Xp)
 | prm
def par : Nat → Job → List Tok → Option (Rd Xp)
 | 0, _, _ => none
 | n + 1, .lev k, ts =>
  if k ≤ 1 then bndO (par n (.lev 2) ts) fun x r => par n (.lp 1 x) r
  else if k = 2 ∨ k = 5 ∨ k = 6 then bndO (par n (.lev (k + 1)) ts) fun x r => par n (.lp k x) r
  else if k = 3 then (if hdT ts = sNot then bndO (par n (.lev 3) ts.tail) fun x r => some (.ok (one 6 x) r) else par n (.lev 4) ts)
  else if k = 4 then bndO (par n (.lev 5) ts) fun x r => match opT 4 (hdT r) with
   | some o => bndO (par n (.lev 5) r.tail) fun y r' => some (.ok (two o x y) r')
   | none => some (.ok x r)
  else if k = 7 ∧ hdT ts = [45] then bndO (par n (.lev 7) ts.tail) fun x r => some (.ok (one 3 x) r)
  else par n .prm ts
 | n + 1, .lp k x, ts =>
  if k = 6 ∧ hdT ts = sPer then (match numT 1 1000000000000 ts.tail with
   | .ok v r => par n (.lp k (perX v x)) r
   | .er r => some (.er r))
  else match opT k (hdT ts) with
   | some o => bndO (par n (.lev (k + 1)) ts.tail) fun y r => par n (.lp k (two o x y)) r
   | none => some (.ok x ts)
 | n + 1, .prm, ts =>
  if ts = [] then some (.er [])
  else if hdT ts = [40] then bndO (par n (.lev 0) ts.tail) fun x r => some ((wantT [41] r).bnd fun _ r => .ok x r)
  else if hdT ts = sMin ∨ hdT ts = sMax then
   bndO (some (wantT [40] ts.tail)) fun _ r => bndO (par n (.lev 0) r) fun a r => bndO (some (wantT [44] r)) fun _ r => bndO (par n (.lev 0) r) fun b r => some ((wantT [41] r).bnd fun _ r => .ok (two (if hdT ts = sMax then 11 else 10) a b) r)
  else if hdT ts = sAbs ∨ hdT ts = sShare then
   bndO (some (wantT [40] ts.tail)) fun _ r => bndO (par n (.lev 0) r) fun a r => some ((wantT [41] r).bnd fun _ r => .ok (one (if hdT ts = sShare then 5 else 4) a) r)
  else if hdT ts = sBal ∨ hdT ts = sPart then
   some ((wantT [40] ts.tail).bnd fun _ r => (accT r).bnd fun f r => (wantT [46, 46] r).bnd fun _ r => (accT r).bnd fun t r => (wantT [41] r).bnd fun _ r => .ok (.mk (if hdT ts = sPart then 22 else 21) 0 f t [] []) r)
  else if kdT ts = 2 then some ((numT 0 1000000000000 ts).bnd fun v r => .ok (.mk 1 v 0 0 [] []) r)
  else some ((nameT ts).bnd fun s r => .ok (.mk 2 0 0 0 s []) r)
def fuelJ (j : Job) (len : Nat) : Nat := match j with
 | .lev k => 10 * len + 10 - min k 8
 | .lp _ _ => 10 * len + 9
 | .prm => 10 * len + 1
def parX (j : Job) (ts : List Tok) : Option (Rd Xp) := par (fuelJ j ts.length) j ts
def Sfx (r ts : List Tok) : Prop := r <:+ ts
end Go.Proofs.YtoepkeppgfbplaaDoor
