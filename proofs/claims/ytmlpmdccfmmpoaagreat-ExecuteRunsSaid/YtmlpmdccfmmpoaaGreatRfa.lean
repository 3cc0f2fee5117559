/- Walks of chapter 34's reference: Takes, uses, fine, run. -/
import Derived.Test.YtmlpmdccfmmpoaaGreatMea
set_option linter.unusedSimpArgs false
set_option linter.unusedVariables false
set_option maxHeartbeats 1000000
set_option maxRecDepth 8000
namespace Go.Proofs.YtmlpmdccfmmpoaaGreat
open E

def takR (op:Int):Int×Int:=if 1≤op∧op≤4 then (0,1) else if 5≤op∧op≤9 then (1,1) else if 10≤op∧op≤22 then (2,1) else if 23≤op∧op≤25 then (1,0) else (0,0)
def useR (op:Int):Int:=if op=3∨op=4 then 2 else if op=1∨op=2∨op=9∨op=23∨op=25∨op=26 then 1 else 0
def fineR (x:Ins) (loc:Int) (pair:Bool):Bool:=
 if x.op=1 then amtB x.a
 else if x.op=2 then decide (0≤x.a)&&decide (x.a<loc)
 else if x.op=3∨x.op=4 then accB x.a&&accB x.b&&decide (x.a≤x.b)&&(pair||(x.op==3))
 else if x.op=9 then decide (1≤x.a)&&decide (x.a≤1000000000000)
 else if x.op=23 then (x.a==loc)
 else if x.op=25∨x.op=26 then accB x.a
 else (x.a==0)

theorem w_rtak (op:Int):Pure Tryz.prog 73 [vI op] (.tup [vI (takR op).1,vI (takR op).2]):=by
 unfold takR
 (refine Pure.of_code mix Tryz.call73 k_73 (by simp) (fun hB=>?_); (try simp at hB); (try simp -implicitDefEqProofs [qc_73]))
 ((try simp -implicitDefEqProofs); repeat' first | ((with_reducible first | apply gdK_em | apply cdK_em | apply pickK_em)<;>(intro hc; have hc':=hc; (try simp at hc'); simp -implicitDefEqProofs [hc,hc'])))
 all_goals ((repeat' split)<;>simp_all<;>omega)
theorem w_ruse (op:Int):Pure Tryz.prog 74 [vI op] (vI (useR op)):=by
 unfold useR
 (refine Pure.of_code mix Tryz.call74 k_74 (by simp) (fun hB=>?_); (try simp at hB); (try simp -implicitDefEqProofs [qc_74]))
 ((try simp -implicitDefEqProofs); repeat' first | ((with_reducible first | apply gdK_em | apply cdK_em | apply pickK_em)<;>(intro hc; have hc':=hc; (try simp at hc'); simp -implicitDefEqProofs [hc,hc'])))
 all_goals ((repeat' split)<;>simp_all)
theorem w_rfine (x:Ins) (loc:Int) (pair:Bool):Pure Tryz.prog 75 [x.v,vI loc,vB pair] (vB (fineR x loc pair)):=by
 obtain⟨op,a,b⟩:=x
 unfold fineR
 (refine Pure.of_code mix Tryz.call75 k_75 (by simp) (fun hB=>?_); (try simp at hB); (try simp -implicitDefEqProofs [qc_75]))
 ((try simp -implicitDefEqProofs); repeat' first | ((with_reducible first | apply gdK_em | apply cdK_em | apply pickK_em)<;>(intro hc; have hc':=hc; (try simp at hc'); simp -implicitDefEqProofs [hc,hc'])) | (with_reducible apply callK_pure<;>first | (simp only [eras,era,eras_map]; first | with_reducible exact (w_ramt _) | with_reducible exact (w_racc _) | simpa using (w_ramt _) | simpa using (w_racc _)) | (simp -implicitDefEqProofs)))
end Go.Proofs.YtmlpmdccfmmpoaaGreat
