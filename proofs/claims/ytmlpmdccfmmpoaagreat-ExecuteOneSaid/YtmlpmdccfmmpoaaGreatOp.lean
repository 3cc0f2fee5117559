/- Walks of chapter 34: amounts, products, operations. -/
import Derived.Test.YtmlpmdccfmmpoaaGreatSlices
import Derived.Test.YtmlpmdccfmmpoaaGreatInP
section
section
set_option linter.unusedSimpArgs false
set_option linter.unusedVariables false
set_option maxHeartbeats 1000000
set_option maxRecDepth 8000
namespace Go.Proofs.YtmlpmdccfmmpoaaGreat
open E

def amtB (n:Int):Bool:=decide (-1000000000000≤n)&&decide (n≤1000000000000)
def tru (b:Bool):Int:=if b then 1 else 0
def finO (n:Int):Int×Bool:=if amtB n=true then (n,true) else (0,false)
def absW (x:Int):Int:=max x (IntKind.i64.wrap (-x))
def qW (x:Int):Int:=IntKind.i64.wrap (Int.tdiv 1000000000000 (absW x))
def mulC (x y:Int):Int×Bool:=if x=0 then (0,true) else if y=0 then (0,true) else if qW x<absW y then (0,false) else (IntKind.i64.wrap (x*y),true)
def mulR (x y:Int):Int×Bool:=if x=0 then finO (IntKind.i64.wrap (x*y)) else if qW x<absW y then (0,false) else finO (IntKind.i64.wrap (x*y))
def perW (x a:Int):Int:=IntKind.i64.wrap ((IntKind.i64.wrap (IntKind.i64.wrap (2*absW x)+a)).tdiv (IntKind.i64.wrap (2*a)))
def opG (mul:Int→Int→Int×Bool) (op a x y:Int):Int×Bool:=
 if amtB x=true then if amtB y=true then
  if op=5 then finO (IntKind.i64.wrap (-x)) else if op=6 then finO (absW x) else if op=8 then finO (tru (x==0))
  else if op=9 then if a<1 then (0,false) else if amtB a=true then finO (if x<0 then IntKind.i64.wrap (-(perW x a)) else perW x a) else (0,false)
  else if op=10 then finO (IntKind.i64.wrap (x+y)) else if op=11 then finO (IntKind.i64.wrap (x-y)) else if op=12 then mul x y
  else if op=13 then finO (min x y) else if op=14 then finO (max x y)
  else if op=15 then finO (tru (x != 0&&y != 0)) else if op=16 then finO (tru (x != 0||y != 0))
  else if op=17 then finO (tru (decide (x<y))) else if op=18 then finO (tru (decide (x≤y))) else if op=19 then finO (tru (x==y))
  else if op=20 then finO (tru (x != y)) else if op=21 then finO (tru (decide (y≤x))) else if op=22 then finO (tru (decide (y<x)))
  else (0,false)
 else (0,false) else (0,false)
abbrev opC:=opG mulC
abbrev opR:=opG mulR
def vO (r:Int×Bool):V:=.tup [vI r.1,vB r.2]

theorem w_amt (n:Int):Pure Tryz.prog 70 [vI n] (vB (amtB n)):=by
 unfold amtB
 (refine Pure.of_code mix Tryz.call70 k_70 (by simp) (fun hB=>?_); (try simp at hB); (try simp -implicitDefEqProofs [qc_70]))
 ((try simp -implicitDefEqProofs); repeat' first | ((with_reducible first | apply gdK_em | apply cdK_em | apply pickK_em)<;>(intro hc; have hc':=hc; (try simp at hc'); simp -implicitDefEqProofs [hc,hc'])))
theorem w_ramt (n:Int):Pure Tryz.prog 36 [vI n] (vB (amtB n)):=by
 unfold amtB
 (refine Pure.of_code mix Tryz.call36 k_36 (by simp) (fun hB=>?_); (try simp at hB); (try simp -implicitDefEqProofs [qc_36]))
 ((try simp -implicitDefEqProofs); repeat' first | ((with_reducible first | apply gdK_em | apply cdK_em | apply pickK_em)<;>(intro hc; have hc':=hc; (try simp at hc'); simp -implicitDefEqProofs [hc,hc'])))
theorem w_tru (b:Bool):Pure Tryz.prog 71 [vB b] (vI (tru b)):=by
 cases b<;>unfold tru
 ·(refine Pure.of_code mix Tryz.call71 k_71 (by simp) (fun hB=>?_); (try simp at hB); (try simp -implicitDefEqProofs [qc_71]))
  ((try simp -implicitDefEqProofs); repeat' first | ((with_reducible first | apply gdK_em | apply cdK_em | apply pickK_em)<;>(intro hc; have hc':=hc; (try simp at hc'); simp -implicitDefEqProofs [hc,hc'])))
 ·(refine Pure.of_code mix Tryz.call71 k_71 (by simp) (fun hB=>?_); (try simp at hB); (try simp -implicitDefEqProofs [qc_71]))
  ((try simp -implicitDefEqProofs); repeat' first | ((with_reducible first | apply gdK_em | apply cdK_em | apply pickK_em)<;>(intro hc; have hc':=hc; (try simp at hc'); simp -implicitDefEqProofs [hc,hc'])))
theorem w_rtru (b:Bool):Pure Tryz.prog 101 [vB b] (vI (tru b)):=by
 cases b<;>unfold tru
 ·(refine Pure.of_code mix Tryz.call101 k_101 (by simp) (fun hB=>?_); (try simp at hB); (try simp -implicitDefEqProofs [qc_101]))
  ((try simp -implicitDefEqProofs); repeat' first | ((with_reducible first | apply gdK_em | apply cdK_em | apply pickK_em)<;>(intro hc; have hc':=hc; (try simp at hc'); simp -implicitDefEqProofs [hc,hc'])))
 ·(refine Pure.of_code mix Tryz.call101 k_101 (by simp) (fun hB=>?_); (try simp at hB); (try simp -implicitDefEqProofs [qc_101]))
  ((try simp -implicitDefEqProofs); repeat' first | ((with_reducible first | apply gdK_em | apply cdK_em | apply pickK_em)<;>(intro hc; have hc':=hc; (try simp at hc'); simp -implicitDefEqProofs [hc,hc'])))

theorem amt_in {x:Int} (h:amtB x=true) : -1000000000000≤x∧x≤1000000000000:=by simpa [amtB] using h
theorem absW_eq {x:Int} (h:amtB x=true):absW x=max x (-x):=by
 have:=amt_in h
 unfold absW
 rw [wrap64 (by omega) (by omega)]

theorem w_prod (x y:Int) (hx:amtB x=true):Pure Tryz.prog 72 [vI x,vI y] (vO (mulC x y)):=by
 have h0:x≠0→¬absW x=0:=by rw [absW_eq hx]; omega
 unfold mulC qW
 unfold absW at *
 (refine Pure.of_code mix Tryz.call72 k_72 (by simp) (fun hB=>?_); (try simp at hB); (try simp -implicitDefEqProofs [qc_72]))
 ((try simp -implicitDefEqProofs [vO]); repeat' first | ((with_reducible first | apply gdK_em | apply cdK_em | apply pickK_em)<;>(intro hc; have hc':=hc; (try simp at hc'); simp -implicitDefEqProofs [hc,hc',vO])))
 all_goals (refine⟨h0 (by assumption),?_⟩; ((try simp -implicitDefEqProofs [vO]); repeat' first | ((with_reducible first | apply gdK_em | apply cdK_em | apply pickK_em)<;>(intro hc; have hc':=hc; (try simp at hc'); simp -implicitDefEqProofs [hc,hc',vO]))))
 all_goals grind

theorem w_op (op a x y:Int):Pure Tryz.prog 52 [vI op,vI a,vI x,vI y] (vO (opC op a x y)):=by
 unfold opC opG finO
 cases hx:amtB x
 ·(refine Pure.of_code mix Tryz.call52 k_52 (by simp) (fun hB=>?_); (try simp at hB); (try simp -implicitDefEqProofs [qc_52,vO]))
  ((try simp -implicitDefEqProofs [vO,hx]); repeat' first | ((with_reducible first | apply gdK_em | apply cdK_em | apply pickK_em)<;>(intro hc; have hc':=hc; (try simp at hc'); simp -implicitDefEqProofs [hc,hc',vO,hx])) | (with_reducible apply callK_pure<;>first | (simp only [eras,era,eras_map]; first | with_reducible exact (w_amt _) | simpa using (w_amt _)) | (simp -implicitDefEqProofs [vO,hx])))
 cases hy:amtB y
 ·(refine Pure.of_code mix Tryz.call52 k_52 (by simp) (fun hB=>?_); (try simp at hB); (try simp -implicitDefEqProofs [qc_52,vO]))
  ((try simp -implicitDefEqProofs [vO,hx,hy]); repeat' first | ((with_reducible first | apply gdK_em | apply cdK_em | apply pickK_em)<;>(intro hc; have hc':=hc; (try simp at hc'); simp -implicitDefEqProofs [hc,hc',vO,hx,hy])) | (with_reducible apply callK_pure<;>first | (simp only [eras,era,eras_map]; first | with_reducible exact (w_amt _) | simpa using (w_amt _)) | (simp -implicitDefEqProofs [vO,hx,hy])))
 unfold perW absW
 (refine Pure.of_code mix Tryz.call52 k_52 (by simp) (fun hB=>?_); (try simp at hB); (try simp -implicitDefEqProofs [qc_52,vO]))
 ((try simp -implicitDefEqProofs [vO,hx,hy]); repeat' first | ((with_reducible first | apply gdK_em | apply cdK_em | apply pickK_em)<;>(intro hc; have hc':=hc; (try simp at hc'); simp -implicitDefEqProofs [hc,hc',vO,hx,hy])) | (with_reducible apply callK_pure<;>first | (simp only [eras,era,eras_map]; first | with_reducible exact (w_amt _) | with_reducible exact (w_tru _) | with_reducible exact (w_prod _ _ hx) | simpa using (w_amt _) | simpa using (w_tru _) | simpa using (w_prod _ _ hx)) | (simp -implicitDefEqProofs [vO,hx,hy])))
 all_goals
  have g1 : ¬a<1:=by omega
  have g2:amtB a=true:=by assumption
  refine⟨by have:=amt_in g2; rw [wrap64 (by omega) (by omega)]; omega,?_⟩
  rcases Int.lt_or_le x 0 with g3 | g3
  ·((try simp -implicitDefEqProofs [vO,hx,hy,g1,g2,g3]); repeat' first | ((with_reducible first | apply gdK_em | apply cdK_em | apply pickK_em)<;>(intro hc; have hc':=hc; (try simp at hc'); simp -implicitDefEqProofs [hc,hc',vO,hx,hy,g1,g2,g3])) | (with_reducible apply callK_pure<;>first | (simp only [eras,era,eras_map]; first | with_reducible exact (w_amt _) | simpa using (w_amt _)) | (simp -implicitDefEqProofs [vO,hx,hy,g1,g2,g3])))
  ·have g4 : ¬x<0:=by omega
   ((try simp -implicitDefEqProofs [vO,hx,hy,g1,g2,g4]); repeat' first | ((with_reducible first | apply gdK_em | apply cdK_em | apply pickK_em)<;>(intro hc; have hc':=hc; (try simp at hc'); simp -implicitDefEqProofs [hc,hc',vO,hx,hy,g1,g2,g4])) | (with_reducible apply callK_pure<;>first | (simp only [eras,era,eras_map]; first | with_reducible exact (w_amt _) | simpa using (w_amt _)) | (simp -implicitDefEqProofs [vO,hx,hy,g1,g2,g4])))

theorem w_rop (op a x y:Int):Pure Tryz.prog 79 [vI op,vI a,vI x,vI y] (vO (opR op a x y)):=by
 unfold opR opG finO
 cases hx:amtB x
 ·(refine Pure.of_code mix Tryz.call79 k_79 (by simp) (fun hB=>?_); (try simp at hB); (try simp -implicitDefEqProofs [qc_79,vO]))
  ((try simp -implicitDefEqProofs [vO,hx]); repeat' first | ((with_reducible first | apply gdK_em | apply cdK_em | apply pickK_em)<;>(intro hc; have hc':=hc; (try simp at hc'); simp -implicitDefEqProofs [hc,hc',vO,hx])) | (with_reducible apply callK_pure<;>first | (simp only [eras,era,eras_map]; first | with_reducible exact (w_ramt _) | simpa using (w_ramt _)) | (simp -implicitDefEqProofs [vO,hx])))
 cases hy:amtB y
 ·(refine Pure.of_code mix Tryz.call79 k_79 (by simp) (fun hB=>?_); (try simp at hB); (try simp -implicitDefEqProofs [qc_79,vO]))
  ((try simp -implicitDefEqProofs [vO,hx,hy]); repeat' first | ((with_reducible first | apply gdK_em | apply cdK_em | apply pickK_em)<;>(intro hc; have hc':=hc; (try simp at hc'); simp -implicitDefEqProofs [hc,hc',vO,hx,hy])) | (with_reducible apply callK_pure<;>first | (simp only [eras,era,eras_map]; first | with_reducible exact (w_ramt _) | simpa using (w_ramt _)) | (simp -implicitDefEqProofs [vO,hx,hy])))
 have h0:x≠0→¬absW x=0:=by rw [absW_eq hx]; omega
 unfold perW mulR qW finO
 unfold absW at *
 (refine Pure.of_code mix Tryz.call79 k_79 (by simp) (fun hB=>?_); (try simp at hB); (try simp -implicitDefEqProofs [qc_79,vO]))
 ((try simp -implicitDefEqProofs [vO,hx,hy]); repeat' first | ((with_reducible first | apply gdK_em | apply cdK_em | apply pickK_em)<;>(intro hc; have hc':=hc; (try simp at hc'); simp -implicitDefEqProofs [hc,hc',vO,hx,hy])) | (with_reducible apply callK_pure<;>first | (simp only [eras,era,eras_map]; first | with_reducible exact (w_ramt _) | with_reducible exact (w_rtru _) | simpa using (w_ramt _) | simpa using (w_rtru _)) | (simp -implicitDefEqProofs [vO,hx,hy])))
 all_goals try
  have g1 : ¬a<1:=by omega
  have g2:amtB a=false:=by
   simp only [amtB,Bool.and_eq_false_iff,decide_eq_false_iff_not]
   omega
  simp [g1,g2]
  done
 all_goals try
  have g1 : ¬a<1:=by omega
  have g2:amtB a=true:=by
   simp only [amtB,Bool.and_eq_true,decide_eq_true_eq]
   omega
  refine⟨by have:=amt_in g2; rw [wrap64 (by omega) (by omega)]; omega,?_⟩
  rcases Int.lt_or_le x 0 with g3 | g3
  ·((try simp -implicitDefEqProofs [vO,hx,hy,g1,g2,g3]); repeat' first | ((with_reducible first | apply gdK_em | apply cdK_em | apply pickK_em)<;>(intro hc; have hc':=hc; (try simp at hc'); simp -implicitDefEqProofs [hc,hc',vO,hx,hy,g1,g2,g3])) | (with_reducible apply callK_pure<;>first | (simp only [eras,era,eras_map]; first | with_reducible exact (w_ramt _) | simpa using (w_ramt _)) | (simp -implicitDefEqProofs [vO,hx,hy,g1,g2,g3])))
  ·have g4 : ¬x<0:=by omega
   ((try simp -implicitDefEqProofs [vO,hx,hy,g1,g2,g4]); repeat' first | ((with_reducible first | apply gdK_em | apply cdK_em | apply pickK_em)<;>(intro hc; have hc':=hc; (try simp at hc'); simp -implicitDefEqProofs [hc,hc',vO,hx,hy,g1,g2,g4])) | (with_reducible apply callK_pure<;>first | (simp only [eras,era,eras_map]; first | with_reducible exact (w_ramt _) | simpa using (w_ramt _)) | (simp -implicitDefEqProofs [vO,hx,hy,g1,g2,g4])))
 all_goals
  refine⟨h0 (by assumption),?_⟩
  rcases Int.lt_or_le (IntKind.i64.wrap (Int.tdiv 1000000000000 (max x (IntKind.i64.wrap (-x))))) (max y (IntKind.i64.wrap (-y))) with g3 | g3
  ·((try simp -implicitDefEqProofs [vO,hx,hy,g3]); repeat' first | ((with_reducible first | apply gdK_em | apply cdK_em | apply pickK_em)<;>(intro hc; have hc':=hc; (try simp at hc'); simp -implicitDefEqProofs [hc,hc',vO,hx,hy,g3])) | (with_reducible apply callK_pure<;>first | (simp only [eras,era,eras_map]; first | with_reducible exact (w_ramt _) | simpa using (w_ramt _)) | (simp -implicitDefEqProofs [vO,hx,hy,g3])))
  ·have g4:=Int.not_lt.2 g3
   ((try simp -implicitDefEqProofs [vO,hx,hy,g4]); repeat' first | ((with_reducible first | apply gdK_em | apply cdK_em | apply pickK_em)<;>(intro hc; have hc':=hc; (try simp at hc'); simp -implicitDefEqProofs [hc,hc',vO,hx,hy,g4])) | (with_reducible apply callK_pure<;>first | (simp only [eras,era,eras_map]; first | with_reducible exact (w_ramt _) | simpa using (w_ramt _)) | (simp -implicitDefEqProofs [vO,hx,hy,g4])))
end Go.Proofs.YtmlpmdccfmmpoaaGreat
end

/- Chapter 34: the table of operations. -/
section
set_option linter.unusedSimpArgs false
set_option linter.unusedVariables false
set_option maxHeartbeats 2000000
set_option maxRecDepth 20000
namespace Go.Proofs.YtmlpmdccfmmpoaaGreat
open E

def opTab:List (List UInt8×Int×Int×Int):=[
 ([],0,0,0),
 ([112,117,115,104],0,1,1),
 ([108,111,97,100],0,1,1),
 ([98,97,108,97,110,99,101],0,1,2),
 ([112,97,114,116,110,101,114],0,1,2),
 ([110,101,103],1,1,0),
 ([97,98,115],1,1,0),
 ([115,104,97,114,101],1,1,0),
 ([110,111,116],1,1,0),
 ([112,101,114],1,1,1),
 ([97,100,100],2,1,0),
 ([115,117,98],2,1,0),
 ([109,117,108],2,1,0),
 ([109,105,110],2,1,0),
 ([109,97,120],2,1,0),
 ([97,110,100],2,1,0),
 ([111,114],2,1,0),
 ([108,101,115,115],2,1,0),
 ([108,101,115,115,101,113,117,97,108],2,1,0),
 ([101,113,117,97,108],2,1,0),
 ([110,111,116,101,113,117,97,108],2,1,0),
 ([103,114,101,97,116,101,114,101,113,117,97,108],2,1,0),
 ([103,114,101,97,116,101,114],2,1,0),
 ([115,116,111,114,101],1,0,1),
 ([114,101,113,117,105,114,101],1,0,0),
 ([112,111,115,116],1,0,1),
 ([116,111],0,0,1)]
def rowC (r:List UInt8×Int×Int×Int):List T:=[.str r.1,tI r.2.1,tI r.2.2.1,tI r.2.2.2]
def tabC:List T:=opTab.flatMap rowC

theorem w_tab:Pure Tryz.prog 65 [] (.agg (tabC.map .t)):=by
 (refine Pure.of_code mix Tryz.call65 k_65 (by simp) (fun hB=>?_); (try simp at hB); (try simp -implicitDefEqProofs [qc_65]))
 ((try simp -implicitDefEqProofs [tabC,opTab,rowC]); repeat' first | ((with_reducible first | apply gdK_em | apply cdK_em | apply pickK_em)<;>(intro hc; have hc':=hc; (try simp at hc'); simp -implicitDefEqProofs [hc,hc',tabC,opTab,rowC])))
end Go.Proofs.YtmlpmdccfmmpoaaGreat
end

/- Chapter 34: the plain law of the operations. -/
section
set_option linter.unusedSimpArgs false
set_option linter.unusedVariables false
namespace Go.Proofs.YtmlpmdccfmmpoaaGreat
open E

theorem qW_eq {x:Int} (hx:amtB x=true) (h0:x≠0):qW x=1000000000000 / max x (-x)∧0≤1000000000000 / max x (-x)∧1000000000000 / max x (-x)≤1000000000000:=by
 have h:=amt_in hx
 have hm:0<max x (-x):=by omega
 have h1:0≤1000000000000 / max x (-x):=Int.ediv_nonneg (by decide) (by omega)
 have h2:1000000000000 / max x (-x)≤1000000000000:=Int.ediv_le_self _ (by decide)
 refine⟨?_,h1,h2⟩
 unfold qW
 rw [absW_eq hx,Int.tdiv_eq_ediv_of_nonneg (by decide),wrap64 (by omega) (by omega)]

theorem mul_le_M {x y:Int} (h0:x≠0) (h:max y (-y)≤1000000000000 / max x (-x)) : -1000000000000≤x*y∧x*y≤1000000000000:=by
 have hm:0<max x (-x):=by omega
 have h1:max y (-y)*max x (-x)≤1000000000000:=Int.le_trans (Int.mul_le_mul_of_nonneg_right h (by omega)) (Int.ediv_mul_le _ (by omega))
 have h2:x*y≤max y (-y)*max x (-x)∧-(x*y)≤max y (-y)*max x (-x):=by
  rcases (by omega:0≤x∨x<0) with hx | hx<;>rcases (by omega:0≤y∨y<0) with hy | hy
  ·rw [show max y (-y)=y from by omega,show max x (-x)=x from by omega,Int.mul_comm y x]
   have:=Int.mul_nonneg hx hy
   omega
  ·rw [show max y (-y) = -y from by omega,show max x (-x)=x from by omega,Int.neg_mul,Int.mul_comm y x]
   have:=Int.mul_nonneg hx (show 0≤-y from by omega)
   rw [Int.mul_neg] at this
   omega
  ·rw [show max y (-y)=y from by omega,show max x (-x) = -x from by omega,Int.mul_neg,Int.mul_comm y x]
   have:=Int.mul_nonneg (show 0≤-x from by omega) hy
   rw [Int.neg_mul] at this
   omega
  ·rw [show max y (-y) = -y from by omega,show max x (-x) = -x from by omega,Int.neg_mul_neg,Int.mul_comm y x]
   have:=Int.mul_nonneg (show 0≤-x from by omega) (show 0≤-y from by omega)
   rw [Int.neg_mul_neg] at this
   omega
 omega

theorem amt_of {x:Int} (h1 : -1000000000000≤x) (h2:x≤1000000000000):amtB x=true:=by simp [amtB,h1,h2]
theorem finO_zero:finO 0=(0,true):=by decide

theorem mulC_eq {x y:Int} (hx:amtB x=true) (hy:amtB y=true):mulC x y=mulR x y:=by
 unfold mulC mulR
 by_cases h0:x=0
 ·subst h0
  rw [if_pos rfl,if_pos rfl,Int.zero_mul,wrap64 (by decide) (by decide),finO_zero]
 rw [if_neg h0,if_neg h0]
 obtain⟨hq,hq1,hq2⟩:=qW_eq hx h0
 by_cases h1:y=0
 ·subst h1
  rw [if_pos rfl,if_neg (by rw [absW_eq (by decide),hq]; omega),Int.mul_zero,wrap64 (by decide) (by decide),finO_zero]
 rw [if_neg h1]
 by_cases h2:qW x<absW y
 ·rw [if_pos h2,if_pos h2]
 ·rw [if_neg h2,if_neg h2]
  rw [hq,absW_eq hy] at h2
  have:=mul_le_M h0 (by omega:max y (-y)≤_)
  rw [wrap64 (by omega) (by omega)]
  unfold finO
  rw [if_pos (amt_of this.1 this.2)]

theorem op_eq (op a x y:Int):opC op a x y=opR op a x y:=by
 unfold opC opR opG
 by_cases hx:amtB x=true
 ·rw [if_pos hx,if_pos hx]
  by_cases hy:amtB y=true
  ·rw [if_pos hy,if_pos hy,mulC_eq hx hy]
  ·rw [if_neg hy,if_neg hy]
 ·rw [if_neg hx,if_neg hx]
end Go.Proofs.YtmlpmdccfmmpoaaGreat
end
end
