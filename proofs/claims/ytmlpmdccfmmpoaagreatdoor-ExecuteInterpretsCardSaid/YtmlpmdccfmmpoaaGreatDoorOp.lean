/- Walks of chapter 34: amounts, products, operations. -/
import Derived.Test.YtmlpmdccfmmpoaaGreatDoorCodeB
import Derived.Test.YtmlpmdccfmmpoaaGreatDoorApi
section
set_option linter.unusedSimpArgs false
set_option linter.unusedVariables false
set_option maxHeartbeats 1000000
set_option maxRecDepth 8000
namespace Go.Proofs.YtmlpmdccfmmpoaaGreatDoor
open E

def Ah (n:Int):Bool:=decide (-1000000000000≤n)&&decide (n≤1000000000000)
def tru (b:Bool):Int:=if b then 1 else 0
def Dv (n:Int):Int×Bool:=if Ah n=true then (n,true) else (0,false)
def Jx (x:Int):Int:=max x (IntKind.i64.wrap (-x))
def qW (x:Int):Int:=IntKind.i64.wrap (Int.tdiv 1000000000000 (Jx x))
def Zb (x y:Int):Int×Bool:=if x=0 then (0,true) else if y=0 then (0,true) else if qW x<Jx y then (0,false) else (IntKind.i64.wrap (x*y),true)
def Zc (x y:Int):Int×Bool:=if x=0 then Dv (IntKind.i64.wrap (x*y)) else if qW x<Jx y then (0,false) else Dv (IntKind.i64.wrap (x*y))
def A2f (x a:Int):Int:=IntKind.i64.wrap ((IntKind.i64.wrap (IntKind.i64.wrap (2*Jx x)+a)).tdiv (IntKind.i64.wrap (2*a)))
def opG (mul:Int→Int→Int×Bool) (op a x y:Int):Int×Bool:=
 if Ah x=true then if Ah y=true then
  if op=5 then Dv (IntKind.i64.wrap (-x)) else if op=6 then Dv (Jx x) else if op=8 then Dv (tru (x==0))
  else if op=9 then if a<1 then (0,false) else if Ah a=true then Dv (if x<0 then IntKind.i64.wrap (-(A2f x a)) else A2f x a) else (0,false)
  else if op=10 then Dv (IntKind.i64.wrap (x+y)) else if op=11 then Dv (IntKind.i64.wrap (x-y)) else if op=12 then mul x y
  else if op=13 then Dv (min x y) else if op=14 then Dv (max x y)
  else if op=15 then Dv (tru (x != 0&&y != 0)) else if op=16 then Dv (tru (x != 0||y != 0))
  else if op=17 then Dv (tru (decide (x<y))) else if op=18 then Dv (tru (decide (x≤y))) else if op=19 then Dv (tru (x==y))
  else if op=20 then Dv (tru (x != y)) else if op=21 then Dv (tru (decide (y≤x))) else if op=22 then Dv (tru (decide (y<x)))
  else (0,false)
 else (0,false) else (0,false)
abbrev opC:=opG Zb
abbrev opR:=opG Zc
def vO (r:Int×Bool):V:=.tup [vI r.1,vB r.2]

theorem Gg (n:Int):A4 Tryz.prog 104 [vI n] (vB (Ah n)):=by
 unfold Ah
 (refine A4.of_code mix Tryz.call104 k_104 (by simp) (fun hB=>?_);(try simp at hB);(try simp -implicitDefEqProofs))
 ((try simp -implicitDefEqProofs);repeat' first|((with_reducible first|apply A7|apply A8|apply A3)<;>(intro hc;have hc':=hc;(try simp at hc');simp -implicitDefEqProofs [hc,hc'])))
theorem Bn (n:Int):A4 Tryz.prog 76 [vI n] (vB (Ah n)):=by
 unfold Ah
 (refine A4.of_code mix Tryz.call76 k_76 (by simp) (fun hB=>?_);(try simp at hB);(try simp -implicitDefEqProofs))
 ((try simp -implicitDefEqProofs);repeat' first|((with_reducible first|apply A7|apply A8|apply A3)<;>(intro hc;have hc':=hc;(try simp at hc');simp -implicitDefEqProofs [hc,hc'])))
theorem A3t (b:Bool):A4 Tryz.prog 105 [vB b] (vI (tru b)):=by
 cases b<;>unfold tru
 ·(refine A4.of_code mix Tryz.call105 k_105 (by simp) (fun hB=>?_);(try simp at hB);(try simp -implicitDefEqProofs))
  (try simp -implicitDefEqProofs)
 ·(refine A4.of_code mix Tryz.call105 k_105 (by simp) (fun hB=>?_);(try simp at hB);(try simp -implicitDefEqProofs))
  (try simp -implicitDefEqProofs)
theorem Zd (b:Bool):A4 Tryz.prog 127 [vB b] (vI (tru b)):=by
 cases b<;>unfold tru
 ·(refine A4.of_code mix Tryz.call127 k_127 (by simp) (fun hB=>?_);(try simp at hB);(try simp -implicitDefEqProofs))
  (try simp -implicitDefEqProofs)
 ·(refine A4.of_code mix Tryz.call127 k_127 (by simp) (fun hB=>?_);(try simp at hB);(try simp -implicitDefEqProofs))
  (try simp -implicitDefEqProofs)

theorem Ov {x:Int} (h:Ah x=true) : -1000000000000≤x∧x≤1000000000000:=by simpa [Ah] using h
theorem J9 {x:Int} (h:Ah x=true):Jx x=max x (-x):=by
 have:=Ov h
 unfold Jx
 rw [wrap64 (by omega) (by omega)]

theorem Ze (x y:Int) (hx:Ah x=true):A4 Tryz.prog 106 [vI x,vI y] (vO (Zb x y)):=by
 have h0:x≠0→¬Jx x=0:=by rw [J9 hx];omega
 unfold Zb qW
 unfold Jx at *
 (refine A4.of_code mix Tryz.call106 k_106 (by simp) (fun hB=>?_);(try simp at hB);(try simp -implicitDefEqProofs))
 ((try simp -implicitDefEqProofs [vO]);repeat' first|((with_reducible first|apply A7|apply A8|apply A3)<;>(intro hc;have hc':=hc;(try simp at hc');simp -implicitDefEqProofs [hc,hc',vO])))
 all_goals (refine⟨h0 (by assumption),?_⟩;((try simp -implicitDefEqProofs [vO]);repeat' first|((with_reducible first|apply A7|apply A8|apply A3)<;>(intro hc;have hc':=hc;(try simp at hc');simp -implicitDefEqProofs [hc,hc',vO]))))
 all_goals grind

theorem X0 (op a x y:Int):A4 Tryz.prog 52 [vI op,vI a,vI x,vI y] (vO (opC op a x y)):=by
 unfold opC opG Dv
 cases hx:Ah x
 ·(refine A4.of_code mix Tryz.call52 k_52 (by simp) (fun hB=>?_);(try simp at hB);(try simp -implicitDefEqProofs [vO]))
  ((try simp -implicitDefEqProofs [vO,hx]);repeat' first|(with_reducible apply A0<;>first|(simp only [eras,era,A1];first|with_reducible exact (Gg _)|simpa using (Gg _))|(simp -implicitDefEqProofs [vO,hx])))
 cases hy:Ah y
 ·(refine A4.of_code mix Tryz.call52 k_52 (by simp) (fun hB=>?_);(try simp at hB);(try simp -implicitDefEqProofs [vO]))
  ((try simp -implicitDefEqProofs [vO,hx,hy]);repeat' first|(with_reducible apply A0<;>first|(simp only [eras,era,A1];first|with_reducible exact (Gg _)|simpa using (Gg _))|(simp -implicitDefEqProofs [vO,hx,hy])))
 unfold A2f Jx
 (refine A4.of_code mix Tryz.call52 k_52 (by simp) (fun hB=>?_);(try simp at hB);(try simp -implicitDefEqProofs [vO]))
 ((try simp -implicitDefEqProofs [vO,hx,hy]);repeat' first|((with_reducible first|apply A7|apply A8|apply A3)<;>(intro hc;have hc':=hc;(try simp at hc');simp -implicitDefEqProofs [hc,hc',vO,hx,hy]))|(with_reducible apply A0<;>first|(simp only [eras,era,A1];first|with_reducible exact (Gg _)|with_reducible exact (A3t _)|with_reducible exact (Ze _ _ hx)|simpa using (Gg _)|simpa using (A3t _)|simpa using (Ze _ _ hx))|(simp -implicitDefEqProofs [vO,hx,hy])))
 all_goals
  have g1 : ¬a<1:=by omega
  have g2:Ah a=true:=by assumption
  refine⟨by have:=Ov g2;rw [wrap64 (by omega) (by omega)];omega,?_⟩
  rcases Int.lt_or_le x 0 with g3|g3
  ·((try simp -implicitDefEqProofs [vO,hx,hy,g1,g2,g3]);repeat' first|((with_reducible first|apply A7|apply A8|apply A3)<;>(intro hc;have hc':=hc;(try simp at hc');simp -implicitDefEqProofs [hc,hc',vO,hx,hy,g1,g2,g3]))|(with_reducible apply A0<;>first|(simp only [eras,era,A1];first|with_reducible exact (Gg _)|simpa using (Gg _))|(simp -implicitDefEqProofs [vO,hx,hy,g1,g2,g3])))
  ·have g4 : ¬x<0:=by omega
   ((try simp -implicitDefEqProofs [vO,hx,hy,g1,g2,g4]);repeat' first|((with_reducible first|apply A7|apply A8|apply A3)<;>(intro hc;have hc':=hc;(try simp at hc');simp -implicitDefEqProofs [hc,hc',vO,hx,hy,g1,g2,g4]))|(with_reducible apply A0<;>first|(simp only [eras,era,A1];first|with_reducible exact (Gg _)|simpa using (Gg _))|(simp -implicitDefEqProofs [vO,hx,hy,g1,g2,g4])))

theorem A3u (op a x y:Int):A4 Tryz.prog 82 [vI op,vI a,vI x,vI y] (vO (opR op a x y)):=by
 unfold opR opG Dv
 cases hx:Ah x
 ·(refine A4.of_code mix Tryz.call82 k_82 (by simp) (fun hB=>?_);(try simp at hB);(try simp -implicitDefEqProofs [vO]))
  ((try simp -implicitDefEqProofs [vO,hx]);repeat' first|(with_reducible apply A0<;>first|(simp only [eras,era,A1];first|with_reducible exact (Bn _)|simpa using (Bn _))|(simp -implicitDefEqProofs [vO,hx])))
 cases hy:Ah y
 ·(refine A4.of_code mix Tryz.call82 k_82 (by simp) (fun hB=>?_);(try simp at hB);(try simp -implicitDefEqProofs [vO]))
  ((try simp -implicitDefEqProofs [vO,hx,hy]);repeat' first|(with_reducible apply A0<;>first|(simp only [eras,era,A1];first|with_reducible exact (Bn _)|simpa using (Bn _))|(simp -implicitDefEqProofs [vO,hx,hy])))
 have h0:x≠0→¬Jx x=0:=by rw [J9 hx];omega
 unfold A2f Zc qW Dv
 unfold Jx at *
 (refine A4.of_code mix Tryz.call82 k_82 (by simp) (fun hB=>?_);(try simp at hB);(try simp -implicitDefEqProofs [vO]))
 ((try simp -implicitDefEqProofs [vO,hx,hy]);repeat' first|((with_reducible first|apply A7|apply A8|apply A3)<;>(intro hc;have hc':=hc;(try simp at hc');simp -implicitDefEqProofs [hc,hc',vO,hx,hy]))|(with_reducible apply A0<;>first|(simp only [eras,era,A1];first|with_reducible exact (Bn _)|with_reducible exact (Zd _)|simpa using (Bn _)|simpa using (Zd _))|(simp -implicitDefEqProofs [vO,hx,hy])))
 all_goals try
  have g1 : ¬a<1:=by omega
  have g2:Ah a=false:=by
   simp only [Ah,Bool.and_eq_false_iff,decide_eq_false_iff_not]
   omega
  simp [g1,g2]
  done
 all_goals try
  have g1 : ¬a<1:=by omega
  have g2:Ah a=true:=by
   simp only [Ah,Bool.and_eq_true,decide_eq_true_eq]
   omega
  refine⟨by have:=Ov g2;rw [wrap64 (by omega) (by omega)];omega,?_⟩
  rcases Int.lt_or_le x 0 with g3|g3
  ·((try simp -implicitDefEqProofs [vO,hx,hy,g1,g2,g3]);repeat' first|((with_reducible first|apply A7|apply A8|apply A3)<;>(intro hc;have hc':=hc;(try simp at hc');simp -implicitDefEqProofs [hc,hc',vO,hx,hy,g1,g2,g3]))|(with_reducible apply A0<;>first|(simp only [eras,era,A1];first|with_reducible exact (Bn _)|simpa using (Bn _))|(simp -implicitDefEqProofs [vO,hx,hy,g1,g2,g3])))
  ·have g4 : ¬x<0:=by omega
   ((try simp -implicitDefEqProofs [vO,hx,hy,g1,g2,g4]);repeat' first|((with_reducible first|apply A7|apply A8|apply A3)<;>(intro hc;have hc':=hc;(try simp at hc');simp -implicitDefEqProofs [hc,hc',vO,hx,hy,g1,g2,g4]))|(with_reducible apply A0<;>first|(simp only [eras,era,A1];first|with_reducible exact (Bn _)|simpa using (Bn _))|(simp -implicitDefEqProofs [vO,hx,hy,g1,g2,g4])))
 all_goals
  refine⟨h0 (by assumption),?_⟩
  rcases Int.lt_or_le (IntKind.i64.wrap (Int.tdiv 1000000000000 (max x (IntKind.i64.wrap (-x))))) (max y (IntKind.i64.wrap (-y))) with g3|g3
  ·((try simp -implicitDefEqProofs [vO,hx,hy,g3]);repeat' first|(with_reducible apply A0<;>first|(simp only [eras,era,A1];first|with_reducible exact (Bn _)|simpa using (Bn _))|(simp -implicitDefEqProofs [vO,hx,hy,g3])))
  ·have g4:=Int.not_lt.2 g3
   ((try simp -implicitDefEqProofs [vO,hx,hy,g4]);repeat' first|((with_reducible first|apply A7|apply A8|apply A3)<;>(intro hc;have hc':=hc;(try simp at hc');simp -implicitDefEqProofs [hc,hc',vO,hx,hy,g4]))|(with_reducible apply A0<;>first|(simp only [eras,era,A1];first|with_reducible exact (Bn _)|simpa using (Bn _))|(simp -implicitDefEqProofs [vO,hx,hy,g4])))
end Go.Proofs.YtmlpmdccfmmpoaaGreatDoor
end

/- Chapter 34: the table of operations. -/
section
set_option linter.unusedSimpArgs false
set_option linter.unusedVariables false
set_option maxHeartbeats 2000000
set_option maxRecDepth 20000
namespace Go.Proofs.YtmlpmdccfmmpoaaGreatDoor
open E

def Zf:List (List UInt8×Int×Int×Int):=[
 ([],0,0,0),
 ([112,117,115,104],0,1,1),
 ([108,111,97,100],0,1,1),
 ([98,97,108,97,110,99,101],0,1,2),
 ([112,97,114,116,110,101,114],0,1,2),
 ([110,101,103],1,1,0),
 ([97,98,115],1,1,0),
 ([115,104,97,114,101],1,1,0),
 ([110,111,116],1,1,0),
 ([112,101,114],1,1,1),
 ([97,100,100],2,1,0),
 ([115,117,98],2,1,0),
 ([109,117,108],2,1,0),
 ([109,105,110],2,1,0),
 ([109,97,120],2,1,0),
 ([97,110,100],2,1,0),
 ([111,114],2,1,0),
 ([108,101,115,115],2,1,0),
 ([108,101,115,115,101,113,117,97,108],2,1,0),
 ([101,113,117,97,108],2,1,0),
 ([110,111,116,101,113,117,97,108],2,1,0),
 ([103,114,101,97,116,101,114,101,113,117,97,108],2,1,0),
 ([103,114,101,97,116,101,114],2,1,0),
 ([115,116,111,114,101],1,0,1),
 ([114,101,113,117,105,114,101],1,0,0),
 ([112,111,115,116],1,0,1),
 ([116,111],0,0,1)]
def A7n (r:List UInt8×Int×Int×Int):List T:=[.str r.1,tI r.2.1,tI r.2.2.1,tI r.2.2.2]
def Ow:List T:=Zf.flatMap A7n

theorem A7o:A4 Tryz.prog 49 [] (.agg (Ow.map .t)):=by
 (refine A4.of_code mix Tryz.call49 k_49 (by simp) (fun hB=>?_);(try simp at hB);(try simp -implicitDefEqProofs))
 (try simp -implicitDefEqProofs [Ow,Zf,A7n])
end Go.Proofs.YtmlpmdccfmmpoaaGreatDoor
end

/- Chapter 34: the plain law of the operations. -/
section
set_option linter.unusedSimpArgs false
set_option linter.unusedVariables false
namespace Go.Proofs.YtmlpmdccfmmpoaaGreatDoor
open E

theorem A7p {x:Int} (hx:Ah x=true) (h0:x≠0):qW x=1000000000000 / max x (-x)∧0≤1000000000000 / max x (-x)∧1000000000000 / max x (-x)≤1000000000000:=by
 have h:=Ov hx
 have hm:0<max x (-x):=by omega
 have h1:0≤1000000000000 / max x (-x):=Int.ediv_nonneg (by decide) (by omega)
 have h2:1000000000000 / max x (-x)≤1000000000000:=Int.ediv_le_self _ (by decide)
 refine⟨?_,h1,h2⟩
 unfold qW
 rw [J9 hx,Int.tdiv_eq_ediv_of_nonneg (by decide),wrap64 (by omega) (by omega)]

theorem Zg {x y:Int} (h0:x≠0) (h:max y (-y)≤1000000000000 / max x (-x)) : -1000000000000≤x*y∧x*y≤1000000000000:=by
 have hm:0<max x (-x):=by omega
 have h1:max y (-y)*max x (-x)≤1000000000000:=Int.le_trans (Int.mul_le_mul_of_nonneg_right h (by omega)) (Int.ediv_mul_le _ (by omega))
 have h2:x*y≤max y (-y)*max x (-x)∧-(x*y)≤max y (-y)*max x (-x):=by
  rcases (by omega:0≤x∨x<0) with hx|hx<;>rcases (by omega:0≤y∨y<0) with hy|hy
  ·rw [show max y (-y)=y from by omega,show max x (-x)=x from by omega,Int.mul_comm y x]
   have:=Int.mul_nonneg hx hy
   omega
  ·rw [show max y (-y) = -y from by omega,show max x (-x)=x from by omega,Int.neg_mul,Int.mul_comm y x]
   have:=Int.mul_nonneg hx (show 0≤-y from by omega)
   rw [Int.mul_neg] at this
   omega
  ·rw [show max y (-y)=y from by omega,show max x (-x) = -x from by omega,Int.mul_neg,Int.mul_comm y x]
   have:=Int.mul_nonneg (show 0≤-x from by omega) hy
   rw [Int.neg_mul] at this
   omega
  ·rw [show max y (-y) = -y from by omega,show max x (-x) = -x from by omega,Int.neg_mul_neg,Int.mul_comm y x]
   have:=Int.mul_nonneg (show 0≤-x from by omega) (show 0≤-y from by omega)
   rw [Int.neg_mul_neg] at this
   omega
 omega

theorem A5f {x:Int} (h1 : -1000000000000≤x) (h2:x≤1000000000000):Ah x=true:=by simp [Ah,h1,h2]
theorem Np:Dv 0=(0,true):=by decide

theorem A2g {x y:Int} (hx:Ah x=true) (hy:Ah y=true):Zb x y=Zc x y:=by
 unfold Zb Zc
 by_cases h0:x=0
 ·subst h0
  rw [if_pos rfl,if_pos rfl,Int.zero_mul,wrap64 (by decide) (by decide),Np]
 rw [if_neg h0,if_neg h0]
 obtain⟨hq,hq1,hq2⟩:=A7p hx h0
 by_cases h1:y=0
 ·subst h1
  rw [if_pos rfl,if_neg (by rw [J9 (by decide),hq];omega),Int.mul_zero,wrap64 (by decide) (by decide),Np]
 rw [if_neg h1]
 by_cases h2:qW x<Jx y
 ·rw [if_pos h2,if_pos h2]
 ·rw [if_neg h2,if_neg h2]
  rw [hq,J9 hy] at h2
  have:=Zg h0 (by omega:max y (-y)≤_)
  rw [wrap64 (by omega) (by omega)]
  unfold Dv
  rw [if_pos (A5f this.1 this.2)]

theorem R3 (op a x y:Int):opC op a x y=opR op a x y:=by
 unfold opC opR opG
 by_cases hx:Ah x=true
 ·rw [if_pos hx,if_pos hx]
  by_cases hy:Ah y=true
  ·rw [if_pos hy,if_pos hy,A2g hx hy]
  ·rw [if_neg hy,if_neg hy]
 ·rw [if_neg hx,if_neg hx]
end Go.Proofs.YtmlpmdccfmmpoaaGreatDoor
end
