/- Quotients of integers: the program's. -/
import Derived.Test.YtmlpmdccfmmpoaaGreatIn5
import Derived.Test.YtmlpmdccfmmpoaaGreatMea
set_option linter.unusedSimpArgs false
set_option linter.unusedVariables false
set_option maxHeartbeats 2000000
set_option maxRecDepth 8000
namespace Go.Proofs.YtmlpmdccfmmpoaaGreat
open E

def nB (z:Int):Bool:=decide (z<0)
def pE (z:Int):List (List T):=lE .u32 (A4 b9 z.natAbs)
theorem iV9 (z:Int):iV b9 .u32 z=.agg [.t (.bool (nB z)),.t (.sl (pE z))]:=rfl
def rC (n d:Int):List T:=[.bool (nB n),.sl (pE n),.bool (nB d),.sl (pE d)]
def rV (n d:Int):V:=.agg [.t (.bool (nB n)),.t (.sl (pE n)),.t (.bool (nB d)),.t (.sl (pE d))]
def Sm (z:Int):Prop:=z.natAbs<1000000000000000000000000000
theorem Sm.len {z:Int} (h:Sm z):(A4 b9 z.natAbs).length≤1000:=by
 have:=Cf (B:=b9) (n:=z.natAbs) (k:=3) Bj (by unfold Sm at h;unfold b9;omega)
 omega
theorem Vu {n:Int} {d:Nat} (hn:Sm n) (hd:0<d) (hdb:d<b9):A7 Tryz.prog 62 [rV n d] (rV (C6 n d) (C7 n d)):=by
 have hdn:((d:Int)).natAbs=d:=Int.natAbs_natCast d
 have hg:=Ye n d hn.len (by rw [hdn];exact hdb)
 rw [hdn] at hg
 have hg0:=G9 (a:=n) hd
 have hgd:Nat.gcd n.natAbs d≤d:=Nat.gcd_le_right _ hd
 have hs:=Fq (d:Int)
 have s1:sgn (d:Int)=1:=by unfold sgn;rw [if_neg (by omega),if_neg (by omega)]
 rw [s1] at hs
 have q1:=Ip n (Nat.gcd n.natAbs d:Nat) hn.len (by omega) (by rw [Int.natAbs_natCast];omega)
 have q2:=Ip d (Nat.gcd n.natAbs d:Nat) (Sm.len (by unfold Sm;unfold b9 at hdb;omega)) (by omega) (by rw [Int.natAbs_natCast];omega)
 have e2:(d:Int).tdiv (Nat.gcd n.natAbs d:Nat)=(C7 n d:Nat):=rfl
 have e1:n.tdiv (Nat.gcd n.natAbs d:Nat)=C6 n d:=rfl
 rw [e1] at q1
 rw [e2] at q2
 generalize C6 n d=a at *
 generalize C7 n d=b at *
 generalize Nat.gcd n.natAbs d=g at *
 generalize n.tmod (g:Nat)=m1 at *
 generalize (d:Int).tmod (g:Nat)=m2 at *
 simp only [iV9] at *
 unfold rV
 (refine A7.of_code mix Tryz.call62 k_62 (by simp) (fun hB=>?_);(try simp at hB);(try simp -implicitDefEqProofs))
 ((try simp at hg hs q1 q2);(try simp -implicitDefEqProofs);repeat' first|(with_reducible apply A0<;>first|(simp only [eras,era,A1];first|with_reducible assumption)|(simp -implicitDefEqProofs)))
theorem Yl {n:Int} {d:Nat} (hn:Sm n) (hd:0<d) (hdb:d<b9):A7 Tryz.prog 39 [iV b9 .u32 n,iV b9 .u32 d] (.tup [rV (C6 n d) (C7 n d),vI 0]):=by
 have hr:=Vu hn hd hdb
 have hs:=Fq (d:Int)
 have s1:sgn (d:Int)=1:=by unfold sgn;rw [if_neg (by omega),if_neg (by omega)]
 rw [s1] at hs
 generalize C6 n d=a at *
 generalize C7 n d=b at *
 simp only [iV9] at *
 unfold rV at *
 (refine A7.of_code mix Tryz.call39 k_39 (by simp) (fun hB=>?_);(try simp at hB);(try simp -implicitDefEqProofs))
 ((try simp at hr hs);(try simp -implicitDefEqProofs);repeat' first|(with_reducible apply A0<;>first|(simp only [eras,era,A1];first|with_reducible assumption)|(simp -implicitDefEqProofs)))
theorem Sn {n:Int} {d:Nat} (h1 : -9223372036854775808≤n) (h2:n≤9223372036854775807) (hd:0<d) (hdb:d<b9):A7 Tryz.prog 21 [vI n,vI d] (.tup [rV (C6 n d) (C7 n d),vI 0]):=by
 have hr:=Yl (n:=n) (by unfold Sm;omega) hd hdb
 have o1:=S8 h1 h2
 have o2:=S8 (n:=(d:Int)) (by omega) (by unfold b9 at hdb;omega)
 generalize C6 n d=a at *
 generalize C7 n d=b at *
 simp only [iV9] at *
 unfold rV at *
 (refine A7.of_code mix Tryz.call21 k_21 (by simp) (fun hB=>?_);(try simp at hB);(try simp -implicitDefEqProofs))
 ((try simp at o1 o2 hr);(try simp -implicitDefEqProofs);repeat' first|(with_reducible apply A0<;>first|(simp only [eras,era,A1];first|with_reducible assumption)|(simp -implicitDefEqProofs)))
theorem Ku (n:Int) {d:Nat} (hd:0<d):A7 Tryz.prog 107 [rV n d] (.tup [iV b9 .u32 n,iV b9 .u32 d]):=by
 have hs:=Fq (d:Int)
 have s1:sgn (d:Int)=1:=by unfold sgn;rw [if_neg (by omega),if_neg (by omega)]
 rw [s1] at hs
 simp only [iV9] at *
 unfold rV at *
 (refine A7.of_code mix Tryz.call107 k_107 (by simp) (fun hB=>?_);(try simp at hB);(try simp -implicitDefEqProofs))
 ((try simp at hs);(try simp -implicitDefEqProofs);repeat' first|(with_reducible apply A0<;>first|(simp only [eras,era,A1];first|with_reducible assumption)|(simp -implicitDefEqProofs)))
theorem Wt {a c:Int} {b d:Nat} (hac:Sm (a*c)) (ha:Sm a) (hc:Sm c) (hb:0<b) (hd:0<d) (hbd:b*d<b9):A7 Tryz.prog 92 [rV a b,rV c d] (rV (C6 (a*c) (b*d)) (C7 (a*c) (b*d))):=by
 have hbd0:0<b*d:=Nat.mul_pos hb hd
 have hb':b<b9:=Nat.lt_of_le_of_lt (Nat.le_mul_of_pos_right _ hd) hbd
 have hd':d<b9:=Nat.lt_of_le_of_lt (Nat.le_mul_of_pos_left _ hb) hbd
 have hr:=Vu hac hbd0 hbd
 have p1:=Ku a hb
 have p2:=Ku c hd
 have m1:=P3 a c ha.len hc.len
 have m2:=P3 b d (Sm.len (by unfold Sm;unfold b9 at hb';omega)) (Sm.len (by unfold Sm;unfold b9 at hd';omega))
 rw [←Int.natCast_mul] at m2
 generalize b*d=e at *
 generalize a*c=f at *
 generalize C6 f e=x at *
 generalize C7 f e=y at *
 simp only [iV9] at *
 unfold rV at *
 (refine A7.of_code mix Tryz.call92 k_92 (by simp) (fun hB=>?_);(try simp at hB);(try simp -implicitDefEqProofs))
 ((try simp at p1 p2 m1 m2 hr);(try simp -implicitDefEqProofs);repeat' first|(with_reducible apply A0<;>first|(simp only [eras,era,A1];first|with_reducible assumption)|(simp -implicitDefEqProofs)))
theorem Ur {a:Int} {b:Nat} (ha':a.natAbs≤1000000000000000000) (hb:0<b) (hbb:2*b<b9):A7 Tryz.prog 91 [rV a b] (iV b9 .u32 (rnd a b)):=by
 have ha:Sm (2*a):=by unfold Sm;omega
 have p1:=Ku a hb
 have s1:=Fq a
 have ha1:Sm a:=by unfold Sm at *;omega
 have hb1:Sm (b:Int):=by unfold Sm;unfold b9 at hbb;omega
 have n1:=Yd (b:Int)
 have o2:=S8 (n:=2) (by omega) (by omega)
 have m1:=P3 2 a (Sm.len (by unfold Sm;omega)) ha1.len
 have m2:=P3 2 b (Sm.len (by unfold Sm;omega)) hb1.len
 have e2:(2:Int)*(b:Int)=((2*b:Nat):Int):=by omega
 rw [e2] at m2
 have key : ∀h:Int,h=(if a<0 then -(b:Int) else b)→A7 Tryz.prog 108 [iV b9 .u32 (2*a),iV b9 .u32 h] (iV b9 .u32 (2*a+h)):=fun h hh=>by
  refine Wp _ _ (Sm.len (by exact ha)) (Sm.len (by rw [hh];unfold Sm at *;split<;>omega)) ?_
  rw [hh];by_cases h:a<0
  ·rw [if_pos h];simp [h];constructor<;>intro<;>omega
  ·rw [if_neg h];simp [h];omega
 have sg:Sm (2*a+(if a<0 then -(b:Int) else b)):=by unfold Sm at *;unfold b9 at hbb;split<;>omega
 have q:=Ip (2*a+(if a<0 then -(b:Int) else b)) ((2*b:Nat):Int) sg.len (by omega) (by rw [Int.natAbs_natCast];exact hbb)
 have eq:(2*a+(if a<0 then -(b:Int) else b)).tdiv ((2*b:Nat):Int)=rnd a b:=by rw [←S5,←e2]
 rw [eq] at q
 have k1:=key _ rfl
 generalize hhv:(if a<0 then -(b:Int) else b)=hv at *
 generalize rnd a b=R at *
 generalize (2*a+hv).tmod ((2*b:Nat):Int)=m at *
 generalize 2*a+hv=u at *
 generalize 2*a=w at *
 generalize ((2*b:Nat):Int)=v at *
 by_cases h:a<0
 ·have s2:sgn a<0:=by unfold sgn;rw [if_pos h];omega
  rw [if_pos h] at hhv
  rw [hhv] at n1
  simp only [iV9] at *
  unfold rV at *
  (refine A7.of_code mix Tryz.call91 k_91 (by simp) (fun hB=>?_);(try simp at hB);(try simp -implicitDefEqProofs))
  ((try simp at p1 s1 n1 o2 m1 k1 m2 q);(try simp -implicitDefEqProofs [s2]);repeat' first|(with_reducible apply A0<;>first|(simp only [eras,era,A1];first|with_reducible assumption)|(simp -implicitDefEqProofs [s2])))
  repeat' with_reducible apply And.intro
  all_goals (try simp -implicitDefEqProofs)
 ·have s2 : ¬sgn a<0:=by unfold sgn;rw [if_neg h];split<;>omega
  rw [if_neg h] at hhv
  subst hhv
  simp only [iV9] at *
  unfold rV at *
  (refine A7.of_code mix Tryz.call91 k_91 (by simp) (fun hB=>?_);(try simp at hB);(try simp -implicitDefEqProofs))
  ((try simp at p1 s1 n1 o2 m1 k1 m2 q);(try simp -implicitDefEqProofs [s2]);repeat' first|(with_reducible apply A0<;>first|(simp only [eras,era,A1];first|with_reducible assumption)|(simp -implicitDefEqProofs [s2])))
  repeat' with_reducible apply And.intro
  all_goals (try simp -implicitDefEqProofs)
def Fs (n p:Int) (q:Nat):Int×Int:=if Ah n=true then if Ah (rnd (n*p) q)=true then (rnd (n*p) q,0) else (0,2) else (0,1)
theorem So (n:Int):A7 Tryz.prog 89 [vI n] (vB (Ah n)):=by
 unfold Ah
 (refine A7.of_code mix Tryz.call89 k_89 (by simp) (fun hB=>?_);(try simp at hB);(try simp -implicitDefEqProofs))
 ((try simp -implicitDefEqProofs);repeat' first|((with_reducible first|apply Af|apply Ag|apply A8)<;>(intro hc;have hc':=hc;(try simp at hc');simp -implicitDefEqProofs [hc,hc'])))
theorem Us {n:Int} (h:Ah n=true):n.natAbs≤1000000000000:=by
 unfold Ah at h;simp at h;omega
theorem Ut (n p:Int) (q:Nat) (hp:p.natAbs≤100000) (hq:0<q) (hqb:q≤100000):A7 Tryz.prog 67 [vI n,rV p q] (.tup [vI (Fs n p q).1,vI (Fs n p q).2]):=by
 have a1:=So n
 unfold Fs
 cases hn:Ah n
 ·rw [hn] at a1
  unfold rV
  (refine A7.of_code mix Tryz.call67 k_67 (by simp) (fun hB=>?_);(try simp at hB);(try simp -implicitDefEqProofs))
  ((try simp at a1);(try simp -implicitDefEqProofs);repeat' first|(with_reducible apply A0<;>first|(simp only [eras,era,A1];first|with_reducible assumption)|(simp -implicitDefEqProofs)))
 ·rw [hn] at a1
  have hnb:=Us hn
  have hmul:(n*p).natAbs≤100000000000000000:=by
   rw [Int.natAbs_mul]
   exact Nat.le_trans (Nat.mul_le_mul hnb hp) (by decide)
  have o:=Sn (n:=n) (d:=1) (by omega) (by omega) (by decide) (by decide)
  have e1:C6 n 1=n:=by unfold C6;rw [Nat.gcd_one_right];simp
  have e2:C7 n 1=1:=by unfold C7;simp
  rw [e1,e2] at o
  have m:=Wt (a:=n) (c:=p) (b:=1) (d:=q) (by unfold Sm;omega) (by unfold Sm;omega) (by unfold Sm;omega) (by decide) hq (by unfold b9;omega)
  rw [Nat.one_mul] at m
  have hl1:=Oz (a:=n*p) hq
  have hl2:=S4 (a:=n*p) (q:=q)
  have hl3:=Oy (a:=n*p) hq
  have r:=Ur (a:=C6 (n*p) q) (b:=C7 (n*p) q) (by omega) hl3 (by unfold b9;omega)
  rw [Ub hq] at r
  have hrb:=Uc (a:=n*p) hq
  have sm:=Um (rnd (n*p) q) (by omega) (by omega)
  have a2:=So (rnd (n*p) q)
  generalize C6 (n*p) q=x at *
  generalize C7 (n*p) q=y at *
  generalize rnd (n*p) q=z at *
  simp only [iV9] at *
  unfold rV at *
  cases hz:Ah z
  ·rw [hz] at a2
   (refine A7.of_code mix Tryz.call67 k_67 (by simp) (fun hB=>?_);(try simp at hB);(try simp -implicitDefEqProofs))
   ((try simp at a1 a2 o m r sm);(try simp -implicitDefEqProofs);repeat' first|(with_reducible apply A0<;>first|(simp only [eras,era,A1];first|with_reducible assumption)|(simp -implicitDefEqProofs)))
  ·rw [hz] at a2
   (refine A7.of_code mix Tryz.call67 k_67 (by simp) (fun hB=>?_);(try simp at hB);(try simp -implicitDefEqProofs))
   ((try simp at a1 a2 o m r sm);(try simp -implicitDefEqProofs);repeat' first|(with_reducible apply A0<;>first|(simp only [eras,era,A1];first|with_reducible assumption)|(simp -implicitDefEqProofs)))
end Go.Proofs.YtmlpmdccfmmpoaaGreat
