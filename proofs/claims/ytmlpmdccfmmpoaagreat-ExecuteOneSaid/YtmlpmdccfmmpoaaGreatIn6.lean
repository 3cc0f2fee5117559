/- Quotients of integers: the program's. -/
import Derived.Test.YtmlpmdccfmmpoaaGreatIn5
import Derived.Test.YtmlpmdccfmmpoaaGreatMea
set_option linter.unusedSimpArgs false
set_option linter.unusedVariables false
set_option maxHeartbeats 2000000
set_option maxRecDepth 8000
namespace Go.Proofs.YtmlpmdccfmmpoaaGreat
open E

def nB (z:Int):Bool:=decide (z<0)
def pE (z:Int):List (List T):=lE .u32 (lims b9 z.natAbs)
theorem iV9 (z:Int):iV b9 .u32 z=.agg [.t (.bool (nB z)),.t (.sl (pE z))]:=rfl
def rC (n d:Int):List T:=[.bool (nB n),.sl (pE n),.bool (nB d),.sl (pE d)]
def rV (n d:Int):V:=.agg [.t (.bool (nB n)),.t (.sl (pE n)),.t (.bool (nB d)),.t (.sl (pE d))]
def Sm (z:Int):Prop:=z.natAbs<1000000000000000000000000000
theorem Sm.len {z:Int} (h:Sm z):(lims b9 z.natAbs).length≤1000:=by
 have:=lims_len (B:=b9) (n:=z.natAbs) (k:=3) b9_2 (by unfold Sm at h; unfold b9; omega)
 omega
theorem w_red {n:Int} {d:Nat} (hn:Sm n) (hd:0<d) (hdb:d<b9):Pure Tryz.prog 62 [rV n d] (rV (lowN n d) (lowD n d)):=by
 have hdn:((d:Int)).natAbs=d:=Int.natAbs_natCast d
 have hg:=w_GCD n d hn.len (by rw [hdn]; exact hdb)
 rw [hdn] at hg
 have hg0:=low_gcd (a:=n) hd
 have hgd:Nat.gcd n.natAbs d≤d:=Nat.gcd_le_right _ hd
 have hs:=w_Sign (d:Int)
 have s1:sgn (d:Int)=1:=by unfold sgn; rw [if_neg (by omega),if_neg (by omega)]
 rw [s1] at hs
 have q1:=w_QuoRem n (Nat.gcd n.natAbs d:Nat) hn.len (by omega) (by rw [Int.natAbs_natCast]; omega)
 have q2:=w_QuoRem d (Nat.gcd n.natAbs d:Nat) (Sm.len (by unfold Sm; unfold b9 at hdb; omega)) (by omega) (by rw [Int.natAbs_natCast]; omega)
 have e2:(d:Int).tdiv (Nat.gcd n.natAbs d:Nat)=(lowD n d:Nat):=rfl
 have e1:n.tdiv (Nat.gcd n.natAbs d:Nat)=lowN n d:=rfl
 rw [e1] at q1
 rw [e2] at q2
 generalize lowN n d=a at *
 generalize lowD n d=b at *
 generalize Nat.gcd n.natAbs d=g at *
 generalize n.tmod (g:Nat)=m1 at *
 generalize (d:Int).tmod (g:Nat)=m2 at *
 simp only [iV9] at *
 unfold rV
 (refine Pure.of_code mix Tryz.call62 k_62 (by simp) (fun hB=>?_); (try simp at hB); (try simp -implicitDefEqProofs [qc_62]))
 ((try simp at hg); (try simp at hs); (try simp at q1); (try simp at q2); (try simp -implicitDefEqProofs); repeat' first | ((with_reducible first | apply gdK_em | apply cdK_em | apply pickK_em)<;>(intro hc; have hc':=hc; (try simp at hc'); simp -implicitDefEqProofs [hc,hc'])) | (with_reducible apply callK_pure<;>first | (simp only [eras,era,eras_map]; first | with_reducible exact hg | with_reducible exact hs | with_reducible exact q1 | with_reducible exact q2 | simpa using hg | simpa using hs | simpa using q1 | simpa using q2) | (simp -implicitDefEqProofs)))
theorem w_New {n:Int} {d:Nat} (hn:Sm n) (hd:0<d) (hdb:d<b9):Pure Tryz.prog 39 [iV b9 .u32 n,iV b9 .u32 d] (.tup [rV (lowN n d) (lowD n d),vI 0]):=by
 have hr:=w_red hn hd hdb
 have hs:=w_Sign (d:Int)
 have s1:sgn (d:Int)=1:=by unfold sgn; rw [if_neg (by omega),if_neg (by omega)]
 rw [s1] at hs
 generalize lowN n d=a at *
 generalize lowD n d=b at *
 simp only [iV9] at *
 unfold rV at *
 (refine Pure.of_code mix Tryz.call39 k_39 (by simp) (fun hB=>?_); (try simp at hB); (try simp -implicitDefEqProofs [qc_39]))
 ((try simp at hr); (try simp at hs); (try simp -implicitDefEqProofs); repeat' first | ((with_reducible first | apply gdK_em | apply cdK_em | apply pickK_em)<;>(intro hc; have hc':=hc; (try simp at hc'); simp -implicitDefEqProofs [hc,hc'])) | (with_reducible apply callK_pure<;>first | (simp only [eras,era,eras_map]; first | with_reducible exact hr | with_reducible exact hs | simpa using hr | simpa using hs) | (simp -implicitDefEqProofs)))
theorem w_ROf {n:Int} {d:Nat} (h1 : -9223372036854775808≤n) (h2:n≤9223372036854775807) (hd:0<d) (hdb:d<b9):Pure Tryz.prog 21 [vI n,vI d] (.tup [rV (lowN n d) (lowD n d),vI 0]):=by
 have hr:=w_New (n:=n) (by unfold Sm; omega) hd hdb
 have o1:=w_Of h1 h2
 have o2:=w_Of (n:=(d:Int)) (by omega) (by unfold b9 at hdb; omega)
 generalize lowN n d=a at *
 generalize lowD n d=b at *
 simp only [iV9] at *
 unfold rV at *
 (refine Pure.of_code mix Tryz.call21 k_21 (by simp) (fun hB=>?_); (try simp at hB); (try simp -implicitDefEqProofs [qc_21]))
 ((try simp at o1); (try simp at o2); (try simp at hr); (try simp -implicitDefEqProofs); repeat' first | ((with_reducible first | apply gdK_em | apply cdK_em | apply pickK_em)<;>(intro hc; have hc':=hc; (try simp at hc'); simp -implicitDefEqProofs [hc,hc'])) | (with_reducible apply callK_pure<;>first | (simp only [eras,era,eras_map]; first | with_reducible exact o1 | with_reducible exact o2 | with_reducible exact hr | simpa using o1 | simpa using o2 | simpa using hr) | (simp -implicitDefEqProofs)))
theorem w_Parts (n:Int) {d:Nat} (hd:0<d):Pure Tryz.prog 107 [rV n d] (.tup [iV b9 .u32 n,iV b9 .u32 d]):=by
 have hs:=w_Sign (d:Int)
 have s1:sgn (d:Int)=1:=by unfold sgn; rw [if_neg (by omega),if_neg (by omega)]
 rw [s1] at hs
 simp only [iV9] at *
 unfold rV at *
 (refine Pure.of_code mix Tryz.call107 k_107 (by simp) (fun hB=>?_); (try simp at hB); (try simp -implicitDefEqProofs [qc_107]))
 ((try simp at hs); (try simp -implicitDefEqProofs); repeat' first | ((with_reducible first | apply gdK_em | apply cdK_em | apply pickK_em)<;>(intro hc; have hc':=hc; (try simp at hc'); simp -implicitDefEqProofs [hc,hc'])) | (with_reducible apply callK_pure<;>first | (simp only [eras,era,eras_map]; first | with_reducible exact hs | simpa using hs) | (simp -implicitDefEqProofs)))
theorem w_RMul {a c:Int} {b d:Nat} (hac:Sm (a*c)) (ha:Sm a) (hc:Sm c) (hb:0<b) (hd:0<d) (hbd:b*d<b9):Pure Tryz.prog 92 [rV a b,rV c d] (rV (lowN (a*c) (b*d)) (lowD (a*c) (b*d))):=by
 have hbd0:0<b*d:=Nat.mul_pos hb hd
 have hb':b<b9:=Nat.lt_of_le_of_lt (Nat.le_mul_of_pos_right _ hd) hbd
 have hd':d<b9:=Nat.lt_of_le_of_lt (Nat.le_mul_of_pos_left _ hb) hbd
 have hr:=w_red hac hbd0 hbd
 have p1:=w_Parts a hb
 have p2:=w_Parts c hd
 have m1:=w_Mul a c ha.len hc.len
 have m2:=w_Mul b d (Sm.len (by unfold Sm; unfold b9 at hb'; omega)) (Sm.len (by unfold Sm; unfold b9 at hd'; omega))
 rw [←Int.natCast_mul] at m2
 generalize b*d=e at *
 generalize a*c=f at *
 generalize lowN f e=x at *
 generalize lowD f e=y at *
 simp only [iV9] at *
 unfold rV at *
 (refine Pure.of_code mix Tryz.call92 k_92 (by simp) (fun hB=>?_); (try simp at hB); (try simp -implicitDefEqProofs [qc_92]))
 ((try simp at p1); (try simp at p2); (try simp at m1); (try simp at m2); (try simp at hr); (try simp -implicitDefEqProofs); repeat' first | ((with_reducible first | apply gdK_em | apply cdK_em | apply pickK_em)<;>(intro hc; have hc':=hc; (try simp at hc'); simp -implicitDefEqProofs [hc,hc'])) | (with_reducible apply callK_pure<;>first | (simp only [eras,era,eras_map]; first | with_reducible exact p1 | with_reducible exact p2 | with_reducible exact m1 | with_reducible exact m2 | with_reducible exact hr | simpa using p1 | simpa using p2 | simpa using m1 | simpa using m2 | simpa using hr) | (simp -implicitDefEqProofs)))
theorem w_Round {a:Int} {b:Nat} (ha':a.natAbs≤1000000000000000000) (hb:0<b) (hbb:2*b<b9):Pure Tryz.prog 91 [rV a b] (iV b9 .u32 (rnd a b)):=by
 have ha:Sm (2*a):=by unfold Sm; omega
 have p1:=w_Parts a hb
 have s1:=w_Sign a
 have ha1:Sm a:=by unfold Sm at *; omega
 have hb1:Sm (b:Int):=by unfold Sm; unfold b9 at hbb; omega
 have n1:=w_Neg (b:Int)
 have o2:=w_Of (n:=2) (by omega) (by omega)
 have m1:=w_Mul 2 a (Sm.len (by unfold Sm; omega)) ha1.len
 have m2:=w_Mul 2 b (Sm.len (by unfold Sm; omega)) hb1.len
 have e2:(2:Int)*(b:Int)=((2*b:Nat):Int):=by omega
 rw [e2] at m2
 have key : ∀h:Int,h=(if a<0 then -(b:Int) else b)→Pure Tryz.prog 108 [iV b9 .u32 (2*a),iV b9 .u32 h] (iV b9 .u32 (2*a+h)):=fun h hh=>by
  refine w_AddS _ _ (Sm.len (by exact ha)) (Sm.len (by rw [hh]; unfold Sm at *; split<;>omega)) ?_
  rw [hh]; by_cases h:a<0
  ·rw [if_pos h]; simp [h]; constructor<;>intro<;>omega
  ·rw [if_neg h]; simp [h]; omega
 have sg:Sm (2*a+(if a<0 then -(b:Int) else b)):=by unfold Sm at *; unfold b9 at hbb; split<;>omega
 have q:=w_QuoRem (2*a+(if a<0 then -(b:Int) else b)) ((2*b:Nat):Int) sg.len (by omega) (by rw [Int.natAbs_natCast]; exact hbb)
 have eq:(2*a+(if a<0 then -(b:Int) else b)).tdiv ((2*b:Nat):Int)=rnd a b:=by rw [←rnd_tdiv,←e2]
 rw [eq] at q
 have k1:=key _ rfl
 generalize hhv:(if a<0 then -(b:Int) else b)=hv at *
 generalize rnd a b=R at *
 generalize (2*a+hv).tmod ((2*b:Nat):Int)=m at *
 generalize 2*a+hv=u at *
 generalize 2*a=w at *
 generalize ((2*b:Nat):Int)=v at *
 by_cases h:a<0
 ·have s2:sgn a<0:=by unfold sgn; rw [if_pos h]; omega
  rw [if_pos h] at hhv
  rw [hhv] at n1
  simp only [iV9] at *
  unfold rV at *
  (refine Pure.of_code mix Tryz.call91 k_91 (by simp) (fun hB=>?_); (try simp at hB); (try simp -implicitDefEqProofs [qc_91]))
  ((try simp at p1); (try simp at s1); (try simp at n1); (try simp at o2); (try simp at m1); (try simp at k1); (try simp at m2); (try simp at q); (try simp -implicitDefEqProofs [s2]); repeat' first | ((with_reducible first | apply gdK_em | apply cdK_em | apply pickK_em)<;>(intro hc; have hc':=hc; (try simp at hc'); simp -implicitDefEqProofs [hc,hc',s2])) | (with_reducible apply callK_pure<;>first | (simp only [eras,era,eras_map]; first | with_reducible exact p1 | with_reducible exact s1 | with_reducible exact n1 | with_reducible exact o2 | with_reducible exact m1 | with_reducible exact k1 | with_reducible exact m2 | with_reducible exact q | simpa using p1 | simpa using s1 | simpa using n1 | simpa using o2 | simpa using m1 | simpa using k1 | simpa using m2 | simpa using q) | (simp -implicitDefEqProofs [s2])))
  repeat' with_reducible apply And.intro
  all_goals ((try simp -implicitDefEqProofs); repeat' first | ((with_reducible first | apply gdK_em | apply cdK_em | apply pickK_em)<;>(intro hc; have hc':=hc; (try simp at hc'); simp -implicitDefEqProofs [hc,hc'])))
 ·have s2 : ¬sgn a<0:=by unfold sgn; rw [if_neg h]; split<;>omega
  rw [if_neg h] at hhv
  subst hhv
  simp only [iV9] at *
  unfold rV at *
  (refine Pure.of_code mix Tryz.call91 k_91 (by simp) (fun hB=>?_); (try simp at hB); (try simp -implicitDefEqProofs [qc_91]))
  ((try simp at p1); (try simp at s1); (try simp at n1); (try simp at o2); (try simp at m1); (try simp at k1); (try simp at m2); (try simp at q); (try simp -implicitDefEqProofs [s2]); repeat' first | ((with_reducible first | apply gdK_em | apply cdK_em | apply pickK_em)<;>(intro hc; have hc':=hc; (try simp at hc'); simp -implicitDefEqProofs [hc,hc',s2])) | (with_reducible apply callK_pure<;>first | (simp only [eras,era,eras_map]; first | with_reducible exact p1 | with_reducible exact s1 | with_reducible exact n1 | with_reducible exact o2 | with_reducible exact m1 | with_reducible exact k1 | with_reducible exact m2 | with_reducible exact q | simpa using p1 | simpa using s1 | simpa using n1 | simpa using o2 | simpa using m1 | simpa using k1 | simpa using m2 | simpa using q) | (simp -implicitDefEqProofs [s2])))
  repeat' with_reducible apply And.intro
  all_goals ((try simp -implicitDefEqProofs); repeat' first | ((with_reducible first | apply gdK_em | apply cdK_em | apply pickK_em)<;>(intro hc; have hc':=hc; (try simp at hc'); simp -implicitDefEqProofs [hc,hc'])))
def scaleE (n p:Int) (q:Nat):Int×Int:=if amtB n=true then if amtB (rnd (n*p) q)=true then (rnd (n*p) q,0) else (0,2) else (0,1)
theorem w_qamt (n:Int):Pure Tryz.prog 89 [vI n] (vB (amtB n)):=by
 unfold amtB
 (refine Pure.of_code mix Tryz.call89 k_89 (by simp) (fun hB=>?_); (try simp at hB); (try simp -implicitDefEqProofs [qc_89]))
 ((try simp -implicitDefEqProofs); repeat' first | ((with_reducible first | apply gdK_em | apply cdK_em | apply pickK_em)<;>(intro hc; have hc':=hc; (try simp at hc'); simp -implicitDefEqProofs [hc,hc'])))
theorem amt_abs {n:Int} (h:amtB n=true):n.natAbs≤1000000000000:=by
 unfold amtB at h; simp at h; omega
theorem w_Scale (n p:Int) (q:Nat) (hp:p.natAbs≤100000) (hq:0<q) (hqb:q≤100000):Pure Tryz.prog 67 [vI n,rV p q] (.tup [vI (scaleE n p q).1,vI (scaleE n p q).2]):=by
 have a1:=w_qamt n
 unfold scaleE
 cases hn:amtB n
 ·rw [hn] at a1
  unfold rV
  (refine Pure.of_code mix Tryz.call67 k_67 (by simp) (fun hB=>?_); (try simp at hB); (try simp -implicitDefEqProofs [qc_67]))
  ((try simp at a1); (try simp -implicitDefEqProofs); repeat' first | ((with_reducible first | apply gdK_em | apply cdK_em | apply pickK_em)<;>(intro hc; have hc':=hc; (try simp at hc'); simp -implicitDefEqProofs [hc,hc'])) | (with_reducible apply callK_pure<;>first | (simp only [eras,era,eras_map]; first | with_reducible exact a1 | simpa using a1) | (simp -implicitDefEqProofs)))
 ·rw [hn] at a1
  have hnb:=amt_abs hn
  have hmul:(n*p).natAbs≤100000000000000000:=by
   rw [Int.natAbs_mul]
   exact Nat.le_trans (Nat.mul_le_mul hnb hp) (by decide)
  have o:=w_ROf (n:=n) (d:=1) (by omega) (by omega) (by decide) (by decide)
  have e1:lowN n 1=n:=by unfold lowN; rw [Nat.gcd_one_right]; simp
  have e2:lowD n 1=1:=by unfold lowD; simp
  rw [e1,e2] at o
  have m:=w_RMul (a:=n) (c:=p) (b:=1) (d:=q) (by unfold Sm; omega) (by unfold Sm; omega) (by unfold Sm; omega) (by decide) hq (by unfold b9; omega)
  rw [Nat.one_mul] at m
  have hl1:=low_abs (a:=n*p) hq
  have hl2:=low_le (a:=n*p) (q:=q)
  have hl3:=low_pos (a:=n*p) hq
  have r:=w_Round (a:=lowN (n*p) q) (b:=lowD (n*p) q) (by omega) hl3 (by unfold b9; omega)
  rw [rnd_low hq] at r
  have hrb:=rnd_abs (a:=n*p) hq
  have sm:=w_Small (rnd (n*p) q) (by omega) (by omega)
  have a2:=w_qamt (rnd (n*p) q)
  generalize lowN (n*p) q=x at *
  generalize lowD (n*p) q=y at *
  generalize rnd (n*p) q=z at *
  simp only [iV9] at *
  unfold rV at *
  cases hz:amtB z
  ·rw [hz] at a2
   (refine Pure.of_code mix Tryz.call67 k_67 (by simp) (fun hB=>?_); (try simp at hB); (try simp -implicitDefEqProofs [qc_67]))
   ((try simp at a1); (try simp at a2); (try simp at o); (try simp at m); (try simp at r); (try simp at sm); (try simp -implicitDefEqProofs); repeat' first | ((with_reducible first | apply gdK_em | apply cdK_em | apply pickK_em)<;>(intro hc; have hc':=hc; (try simp at hc'); simp -implicitDefEqProofs [hc,hc'])) | (with_reducible apply callK_pure<;>first | (simp only [eras,era,eras_map]; first | with_reducible exact a1 | with_reducible exact a2 | with_reducible exact o | with_reducible exact m | with_reducible exact r | with_reducible exact sm | simpa using a1 | simpa using a2 | simpa using o | simpa using m | simpa using r | simpa using sm) | (simp -implicitDefEqProofs)))
  ·rw [hz] at a2
   (refine Pure.of_code mix Tryz.call67 k_67 (by simp) (fun hB=>?_); (try simp at hB); (try simp -implicitDefEqProofs [qc_67]))
   ((try simp at a1); (try simp at a2); (try simp at o); (try simp at m); (try simp at r); (try simp at sm); (try simp -implicitDefEqProofs); repeat' first | ((with_reducible first | apply gdK_em | apply cdK_em | apply pickK_em)<;>(intro hc; have hc':=hc; (try simp at hc'); simp -implicitDefEqProofs [hc,hc'])) | (with_reducible apply callK_pure<;>first | (simp only [eras,era,eras_map]; first | with_reducible exact a1 | with_reducible exact a2 | with_reducible exact o | with_reducible exact m | with_reducible exact r | with_reducible exact sm | simpa using a1 | simpa using a2 | simpa using o | simpa using m | simpa using r | simpa using sm) | (simp -implicitDefEqProofs)))
end Go.Proofs.YtmlpmdccfmmpoaaGreat
