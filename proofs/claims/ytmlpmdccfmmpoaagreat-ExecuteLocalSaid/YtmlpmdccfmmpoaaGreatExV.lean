/- Functions whose slices grow in boxes, and that call what changes the state where the order of evaluation is open. -/
import Derived.Test.YtmlpmdccfmmpoaaGreatExF
import Derived.Test.YtmlpmdccfmmpoaaGreatCodeM
set_option linter.unusedSimpArgs false
set_option linter.unusedVariables false
set_option maxHeartbeats 4000000
set_option maxRecDepth 8000
namespace Go.Proofs.YtmlpmdccfmmpoaaGreat
open E
theorem Ym (sb kb n:Nat) (B:List Bx) (hU : ∀m,A6 B.length m B B) (cs:List V) (v:Int) (h1:B[sb]?=some (.cells [.bw kb (n+1)])) (h2:B[kb]?=some (.buf 3 1 cs)) (h3:cs[n]?=some (vI v)) (hn:n+1≤1000000) :
  FnS Tryz.prog 47 [.ptr sb 0] ⟨B,[]⟩ (vI v) ⟨B.set sb (.cells [.bw kb n]),[]⟩:=by
 have hkb:=A5 h2
 have hcn:=A5 h3
 have e1:IntKind.i64.wrap (n:Int)=(n:Int):=D6 (by omega)
 have j3:n+1≤cs.length:=by omega
 have j1:(n:Int)<(n:Int)+1:=by omega
 have j2:(n:Int)≤(n:Int)+1:=by omega
 have h3' : ∀h,cs[n]'h=vI v:=fun h=>by rw [List.getElem?_eq_getElem h] at h3;exact Option.some.inj h3
 have hfin:A6 B.length 0 (B.set sb (.cells [.bw kb n])) (B.set sb (.cells [.bw kb n])):=A6.set (show E.leB B.length 0 (.cells _) (.cells _) from ⟨A3 _,by simp [okNs,okN];exact hkb⟩) sb (hU 0)
 (refine FnS.of_code mix Tryz.call47 k_47 (by simp) (fun hB=>?_);(try simp at hB);(try simp -implicitDefEqProofs))
 ((try simp -implicitDefEqProofs [h1,h2,h3,h3',e1,j1,j2,j3,hcn,hfin]);repeat' first|((with_reducible first|apply Af|apply Ag|apply A8)<;>(intro hc;have hc':=hc;(try simp at hc');simp -implicitDefEqProofs [hc,hc',h1,h2,h3,h3',e1,j1,j2,j3,hcn,hfin])))
end Go.Proofs.YtmlpmdccfmmpoaaGreat
section
set_option linter.unusedVariables false
namespace Go.Proofs.YtmlpmdccfmmpoaaGreat
namespace E
theorem FnS.of_codeV {P:Program} (hmix:P.follows .mixedOrders=true) {f N:Nat} {c:EC} {rs:List RV} {vs:List V} {S S':St} {r:V} (hE:Bd P f) (hc:ecG true true P f=some (N,c,rs)) (hlen:vs.length≤N)
  (h:bdVs vs→ewp P S.boxes.length S.toks.length c (Jd rs S.boxes.length S.toks.length r S') (fr0 vs) S):FnS P f vs S r S':=FnS.of_bd hE fun hb=>FnS.of_codeG hmix hE hc hlen (h hb)
end E
end Go.Proofs.YtmlpmdccfmmpoaaGreat
end
