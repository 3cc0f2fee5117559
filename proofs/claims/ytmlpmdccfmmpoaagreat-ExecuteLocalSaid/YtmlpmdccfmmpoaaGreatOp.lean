/- Walks of chapter 34: amounts, products, operations. -/
import Derived.Test.YtmlpmdccfmmpoaaGreatCodeB
import Derived.Test.YtmlpmdccfmmpoaaGreatMaps
section
set_option linter.unusedSimpArgs false
set_option linter.unusedVariables false
set_option maxHeartbeats 1000000
set_option maxRecDepth 8000
namespace Go.Proofs.YtmlpmdccfmmpoaaGreat
open E

def Ah (n:Int):Bool:=decide (-1000000000000≤n)&&decide (n≤1000000000000)
def tru (b:Bool):Int:=if b then 1 else 0
def Cy (n:Int):Int×Bool:=if Ah n=true then (n,true) else (0,false)
def Iq (x:Int):Int:=max x (IntKind.i64.wrap (-x))
def qW (x:Int):Int:=IntKind.i64.wrap (Int.tdiv 1000000000000 (Iq x))
def Se (x y:Int):Int×Bool:=if x=0 then (0,true) else if y=0 then (0,true) else if qW x<Iq y then (0,false) else (IntKind.i64.wrap (x*y),true)
def Un (x y:Int):Int×Bool:=if x=0 then Cy (IntKind.i64.wrap (x*y)) else if qW x<Iq y then (0,false) else Cy (IntKind.i64.wrap (x*y))
def Wq (x a:Int):Int:=IntKind.i64.wrap ((IntKind.i64.wrap (IntKind.i64.wrap (2*Iq x)+a)).tdiv (IntKind.i64.wrap (2*a)))
def opG (mul:Int→Int→Int×Bool) (op a x y:Int):Int×Bool:=
 if Ah x=true then if Ah y=true then
  if op=5 then Cy (IntKind.i64.wrap (-x)) else if op=6 then Cy (Iq x) else if op=8 then Cy (tru (x==0))
  else if op=9 then if a<1 then (0,false) else if Ah a=true then Cy (if x<0 then IntKind.i64.wrap (-(Wq x a)) else Wq x a) else (0,false)
  else if op=10 then Cy (IntKind.i64.wrap (x+y)) else if op=11 then Cy (IntKind.i64.wrap (x-y)) else if op=12 then mul x y
  else if op=13 then Cy (min x y) else if op=14 then Cy (max x y)
  else if op=15 then Cy (tru (x != 0&&y != 0)) else if op=16 then Cy (tru (x != 0||y != 0))
  else if op=17 then Cy (tru (decide (x<y))) else if op=18 then Cy (tru (decide (x≤y))) else if op=19 then Cy (tru (x==y))
  else if op=20 then Cy (tru (x != y)) else if op=21 then Cy (tru (decide (y≤x))) else if op=22 then Cy (tru (decide (y<x)))
  else (0,false)
 else (0,false) else (0,false)
abbrev opC:=opG Se
abbrev opR:=opG Un
def vO (r:Int×Bool):V:=.tup [vI r.1,vB r.2]

theorem Eb (n:Int):A7 Tryz.prog 70 [vI n] (vB (Ah n)):=by
 unfold Ah
 (refine A7.of_code mix Tryz.call70 k_70 (by simp) (fun hB=>?_);(try simp at hB);(try simp -implicitDefEqProofs))
 ((try simp -implicitDefEqProofs);repeat' first|((with_reducible first|apply Af|apply Ag|apply A8)<;>(intro hc;have hc':=hc;(try simp at hc');simp -implicitDefEqProofs [hc,hc'])))
theorem Vr (b:Bool):A7 Tryz.prog 71 [vB b] (vI (tru b)):=by
 cases b<;>unfold tru
 ·(refine A7.of_code mix Tryz.call71 k_71 (by simp) (fun hB=>?_);(try simp at hB);(try simp -implicitDefEqProofs))
  (try simp -implicitDefEqProofs)
 ·(refine A7.of_code mix Tryz.call71 k_71 (by simp) (fun hB=>?_);(try simp at hB);(try simp -implicitDefEqProofs))
  (try simp -implicitDefEqProofs)
theorem O5 {x:Int} (h:Ah x=true) : -1000000000000≤x∧x≤1000000000000:=by simpa [Ah] using h
theorem Hs {x:Int} (h:Ah x=true):Iq x=max x (-x):=by
 have:=O5 h
 unfold Iq
 rw [wrap64 (by omega) (by omega)]

theorem Sf (x y:Int) (hx:Ah x=true):A7 Tryz.prog 72 [vI x,vI y] (vO (Se x y)):=by
 have h0:x≠0→¬Iq x=0:=by rw [Hs hx];omega
 unfold Se qW
 unfold Iq at *
 (refine A7.of_code mix Tryz.call72 k_72 (by simp) (fun hB=>?_);(try simp at hB);(try simp -implicitDefEqProofs))
 ((try simp -implicitDefEqProofs [vO]);repeat' first|((with_reducible first|apply Af|apply Ag|apply A8)<;>(intro hc;have hc':=hc;(try simp at hc');simp -implicitDefEqProofs [hc,hc',vO])))
 all_goals (refine⟨h0 (by assumption),?_⟩;((try simp -implicitDefEqProofs [vO]);repeat' first|((with_reducible first|apply Af|apply Ag|apply A8)<;>(intro hc;have hc':=hc;(try simp at hc');simp -implicitDefEqProofs [hc,hc',vO]))))
 all_goals grind

theorem Sg (op a x y:Int):A7 Tryz.prog 52 [vI op,vI a,vI x,vI y] (vO (opC op a x y)):=by
 unfold opC opG Cy
 cases hx:Ah x
 ·(refine A7.of_code mix Tryz.call52 k_52 (by simp) (fun hB=>?_);(try simp at hB);(try simp -implicitDefEqProofs [vO]))
  ((try simp -implicitDefEqProofs [vO,hx]);repeat' first|(with_reducible apply A0<;>first|(simp only [eras,era,A1];first|with_reducible exact (Eb _)|simpa using (Eb _))|(simp -implicitDefEqProofs [vO,hx])))
 cases hy:Ah y
 ·(refine A7.of_code mix Tryz.call52 k_52 (by simp) (fun hB=>?_);(try simp at hB);(try simp -implicitDefEqProofs [vO]))
  ((try simp -implicitDefEqProofs [vO,hx,hy]);repeat' first|(with_reducible apply A0<;>first|(simp only [eras,era,A1];first|with_reducible exact (Eb _)|simpa using (Eb _))|(simp -implicitDefEqProofs [vO,hx,hy])))
 unfold Wq Iq
 (refine A7.of_code mix Tryz.call52 k_52 (by simp) (fun hB=>?_);(try simp at hB);(try simp -implicitDefEqProofs [vO]))
 ((try simp -implicitDefEqProofs [vO,hx,hy]);repeat' first|((with_reducible first|apply Af|apply Ag|apply A8)<;>(intro hc;have hc':=hc;(try simp at hc');simp -implicitDefEqProofs [hc,hc',vO,hx,hy]))|(with_reducible apply A0<;>first|(simp only [eras,era,A1];first|with_reducible exact (Eb _)|with_reducible exact (Vr _)|with_reducible exact (Sf _ _ hx)|simpa using (Eb _)|simpa using (Vr _)|simpa using (Sf _ _ hx))|(simp -implicitDefEqProofs [vO,hx,hy])))
 all_goals
  have g1 : ¬a<1:=by omega
  have g2:Ah a=true:=by assumption
  refine⟨by have:=O5 g2;rw [wrap64 (by omega) (by omega)];omega,?_⟩
  rcases Int.lt_or_le x 0 with g3|g3
  ·((try simp -implicitDefEqProofs [vO,hx,hy,g1,g2,g3]);repeat' first|((with_reducible first|apply Af|apply Ag|apply A8)<;>(intro hc;have hc':=hc;(try simp at hc');simp -implicitDefEqProofs [hc,hc',vO,hx,hy,g1,g2,g3]))|(with_reducible apply A0<;>first|(simp only [eras,era,A1];first|with_reducible exact (Eb _)|simpa using (Eb _))|(simp -implicitDefEqProofs [vO,hx,hy,g1,g2,g3])))
  ·have g4 : ¬x<0:=by omega
   ((try simp -implicitDefEqProofs [vO,hx,hy,g1,g2,g4]);repeat' first|((with_reducible first|apply Af|apply Ag|apply A8)<;>(intro hc;have hc':=hc;(try simp at hc');simp -implicitDefEqProofs [hc,hc',vO,hx,hy,g1,g2,g4]))|(with_reducible apply A0<;>first|(simp only [eras,era,A1];first|with_reducible exact (Eb _)|simpa using (Eb _))|(simp -implicitDefEqProofs [vO,hx,hy,g1,g2,g4])))

end Go.Proofs.YtmlpmdccfmmpoaaGreat
end

/- Chapter 34: the table of operations. -/
section
set_option linter.unusedSimpArgs false
set_option linter.unusedVariables false
set_option maxHeartbeats 2000000
set_option maxRecDepth 20000
namespace Go.Proofs.YtmlpmdccfmmpoaaGreat
open E

def Sk:List (List UInt8×Int×Int×Int):=[
 ([],0,0,0),
 ([112,117,115,104],0,1,1),
 ([108,111,97,100],0,1,1),
 ([98,97,108,97,110,99,101],0,1,2),
 ([112,97,114,116,110,101,114],0,1,2),
 ([110,101,103],1,1,0),
 ([97,98,115],1,1,0),
 ([115,104,97,114,101],1,1,0),
 ([110,111,116],1,1,0),
 ([112,101,114],1,1,1),
 ([97,100,100],2,1,0),
 ([115,117,98],2,1,0),
 ([109,117,108],2,1,0),
 ([109,105,110],2,1,0),
 ([109,97,120],2,1,0),
 ([97,110,100],2,1,0),
 ([111,114],2,1,0),
 ([108,101,115,115],2,1,0),
 ([108,101,115,115,101,113,117,97,108],2,1,0),
 ([101,113,117,97,108],2,1,0),
 ([110,111,116,101,113,117,97,108],2,1,0),
 ([103,114,101,97,116,101,114,101,113,117,97,108],2,1,0),
 ([103,114,101,97,116,101,114],2,1,0),
 ([115,116,111,114,101],1,0,1),
 ([114,101,113,117,105,114,101],1,0,0),
 ([112,111,115,116],1,0,1),
 ([116,111],0,0,1)]
def Yf (r:List UInt8×Int×Int×Int):List T:=[.str r.1,tI r.2.1,tI r.2.2.1,tI r.2.2.2]
def Ks:List T:=Sk.flatMap Yf

theorem Yg:A7 Tryz.prog 65 [] (.agg (Ks.map .t)):=by
 (refine A7.of_code mix Tryz.call65 k_65 (by simp) (fun hB=>?_);(try simp at hB);(try simp -implicitDefEqProofs))
 (try simp -implicitDefEqProofs [Ks,Sk,Yf])
end Go.Proofs.YtmlpmdccfmmpoaaGreat
end

/- Chapter 34: the plain law of the operations. -/
section
set_option linter.unusedSimpArgs false
set_option linter.unusedVariables false
namespace Go.Proofs.YtmlpmdccfmmpoaaGreat
open E

theorem Yh {x:Int} (hx:Ah x=true) (h0:x≠0):qW x=1000000000000 / max x (-x)∧0≤1000000000000 / max x (-x)∧1000000000000 / max x (-x)≤1000000000000:=by
 have h:=O5 hx
 have hm:0<max x (-x):=by omega
 have h1:0≤1000000000000 / max x (-x):=Int.ediv_nonneg (by decide) (by omega)
 have h2:1000000000000 / max x (-x)≤1000000000000:=Int.ediv_le_self _ (by decide)
 refine⟨?_,h1,h2⟩
 unfold qW
 rw [Hs hx,Int.tdiv_eq_ediv_of_nonneg (by decide),wrap64 (by omega) (by omega)]

theorem Sl {x y:Int} (h0:x≠0) (h:max y (-y)≤1000000000000 / max x (-x)) : -1000000000000≤x*y∧x*y≤1000000000000:=by
 have hm:0<max x (-x):=by omega
 have h1:max y (-y)*max x (-x)≤1000000000000:=Int.le_trans (Int.mul_le_mul_of_nonneg_right h (by omega)) (Int.ediv_mul_le _ (by omega))
 have h2:x*y≤max y (-y)*max x (-x)∧-(x*y)≤max y (-y)*max x (-x):=by
  rcases (by omega:0≤x∨x<0) with hx|hx<;>rcases (by omega:0≤y∨y<0) with hy|hy
  ·rw [show max y (-y)=y from by omega,show max x (-x)=x from by omega,Int.mul_comm y x]
   have:=Int.mul_nonneg hx hy
   omega
  ·rw [show max y (-y) = -y from by omega,show max x (-x)=x from by omega,Int.neg_mul,Int.mul_comm y x]
   have:=Int.mul_nonneg hx (show 0≤-y from by omega)
   rw [Int.mul_neg] at this
   omega
  ·rw [show max y (-y)=y from by omega,show max x (-x) = -x from by omega,Int.mul_neg,Int.mul_comm y x]
   have:=Int.mul_nonneg (show 0≤-x from by omega) hy
   rw [Int.neg_mul] at this
   omega
  ·rw [show max y (-y) = -y from by omega,show max x (-x) = -x from by omega,Int.neg_mul_neg,Int.mul_comm y x]
   have:=Int.mul_nonneg (show 0≤-x from by omega) (show 0≤-y from by omega)
   rw [Int.neg_mul_neg] at this
   omega
 omega

theorem Ws {x:Int} (h1 : -1000000000000≤x) (h2:x≤1000000000000):Ah x=true:=by simp [Ah,h1,h2]
theorem Jv:Cy 0=(0,true):=by decide

theorem Uo {x y:Int} (hx:Ah x=true) (hy:Ah y=true):Se x y=Un x y:=by
 unfold Se Un
 by_cases h0:x=0
 ·subst h0
  rw [if_pos rfl,if_pos rfl,Int.zero_mul,wrap64 (by decide) (by decide),Jv]
 rw [if_neg h0,if_neg h0]
 obtain⟨hq,hq1,hq2⟩:=Yh hx h0
 by_cases h1:y=0
 ·subst h1
  rw [if_pos rfl,if_neg (by rw [Hs (by decide),hq];omega),Int.mul_zero,wrap64 (by decide) (by decide),Jv]
 rw [if_neg h1]
 by_cases h2:qW x<Iq y
 ·rw [if_pos h2,if_pos h2]
 ·rw [if_neg h2,if_neg h2]
  rw [hq,Hs hy] at h2
  have:=Sl h0 (by omega:max y (-y)≤_)
  rw [wrap64 (by omega) (by omega)]
  unfold Cy
  rw [if_pos (Ws this.1 this.2)]

theorem Yi (op a x y:Int):opC op a x y=opR op a x y:=by
 unfold opC opR opG
 by_cases hx:Ah x=true
 ·rw [if_pos hx,if_pos hx]
  by_cases hy:Ah y=true
  ·rw [if_pos hy,if_pos hy,Uo hx hy]
  ·rw [if_neg hy,if_neg hy]
 ·rw [if_neg hx,if_neg hx]
end Go.Proofs.YtmlpmdccfmmpoaaGreat
end
