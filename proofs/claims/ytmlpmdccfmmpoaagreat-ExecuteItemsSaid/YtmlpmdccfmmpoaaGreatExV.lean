/- Functions whose slices grow in boxes, and that call what changes the state where the order of evaluation is open. -/
import Derived.Test.YtmlpmdccfmmpoaaGreatCodeM
set_option linter.unusedVariables false
namespace Go.Proofs.YtmlpmdccfmmpoaaGreat
namespace E
theorem FnS.of_codeV {P : Program} (hmix : P.follows .mixedOrders = true) {f N : Nat} {c : EC} {rs : List RV} {vs : List V} {S S' : St} {r : V} (hE : Enters P f) (hc : ecG true true P f = some (N, c, rs)) (hlen : vs.length ≤ N)
  (h : bdVs vs → ewp P S.boxes.length S.toks.length c (FinK rs S.boxes.length S.toks.length r S') (fr0 vs) S) : FnS P f vs S r S' := FnS.of_bd hE fun hb => FnS.of_codeG hmix hE hc hlen (h hb)
end E
end Go.Proofs.YtmlpmdccfmmpoaaGreat
