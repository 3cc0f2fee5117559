/- Walks of chapter 34's reference: Takes, uses, fine, run. -/
import Derived.Test.YtmlpmdccfmmpoaaGreatInb
import Derived.Test.YtmlpmdccfmmpoaaGreatMea
section
set_option linter.unusedSimpArgs false
set_option linter.unusedVariables false
set_option maxHeartbeats 2000000
set_option maxRecDepth 8000
namespace Go.Proofs.YtmlpmdccfmmpoaaGreat
open E

theorem Sm.len4 {z:Int} (h:Sm z):(lims b4 z.natAbs).length≤900:=by
 have:=lims_len (B:=b4) (n:=z.natAbs) (k:=7) b4_2 (by unfold Sm at h; unfold b4; omega)
 omega
theorem w_rNew {n:Int} {d:Nat} (hn:Sm n) (hd:0<d) (hdb:d<b9):Pure Tryz.prog 63 [iV b4 .i64 n,iV b4 .i64 d] (.tup [sV (lowN n d) (lowD n d),vI 0]):=by
 have hdn:((d:Int)).natAbs=d:=Int.natAbs_natCast d
 have hdS:Sm (d:Int):=by unfold Sm; unfold b9 at hdb; omega
 have hg:=w_rGCD n d hn.len4 hdS.len4
 rw [hdn] at hg
 have hg0:=low_gcd (a:=n) hd
 have hgd:Nat.gcd n.natAbs d≤d:=Nat.gcd_le_right _ hd
 have hgS:Sm ((Nat.gcd n.natAbs d:Nat):Int):=by unfold Sm; unfold b9 at hdb; omega
 have hs:=w_rSign (d:Int)
 have s1:sgn (d:Int)=1:=by unfold sgn; rw [if_neg (by omega),if_neg (by omega)]
 rw [s1] at hs
 have q1:=w_rQuoRem n (Nat.gcd n.natAbs d:Nat) hn.len4 hgS.len4 (by omega)
 have q2:=w_rQuoRem d (Nat.gcd n.natAbs d:Nat) hdS.len4 hgS.len4 (by omega)
 have e2:(d:Int).tdiv (Nat.gcd n.natAbs d:Nat)=(lowD n d:Nat):=rfl
 have e1:n.tdiv (Nat.gcd n.natAbs d:Nat)=lowN n d:=rfl
 rw [e1] at q1
 rw [e2] at q2
 generalize lowN n d=a at *
 generalize lowD n d=b at *
 generalize Nat.gcd n.natAbs d=g at *
 generalize n.tmod (g:Nat)=m1 at *
 generalize (d:Int).tmod (g:Nat)=m2 at *
 simp only [iV4] at *
 unfold sV
 (refine Pure.of_code mix Tryz.call63 k_63 (by simp) (fun hB=>?_); (try simp at hB); (try simp -implicitDefEqProofs [qc_63]))
 ((try simp at hg); (try simp at hs); (try simp at q1); (try simp at q2); (try simp -implicitDefEqProofs); repeat' first | ((with_reducible first | apply gdK_em | apply cdK_em | apply pickK_em)<;>(intro hc; have hc':=hc; (try simp at hc'); simp -implicitDefEqProofs [hc,hc'])) | (with_reducible apply callK_pure<;>first | (simp only [eras,era,eras_map]; first | with_reducible exact hg | with_reducible exact hs | with_reducible exact q1 | with_reducible exact q2 | simpa using hg | simpa using hs | simpa using q1 | simpa using q2) | (simp -implicitDefEqProofs)))
theorem w_rquot {n:Int} {d:Nat} (hn:Sm n) (hd:0<d) (hdb:d<b9):Pure Tryz.prog 41 [iV b4 .i64 n,iV b4 .i64 d] (sV (lowN n d) (lowD n d)):=by
 have hr:=w_rNew hn hd hdb
 generalize lowN n d=a at *
 generalize lowD n d=b at *
 simp only [iV4] at *
 unfold sV at *
 (refine Pure.of_code mix Tryz.call41 k_41 (by simp) (fun hB=>?_); (try simp at hB); (try simp -implicitDefEqProofs [qc_41]))
 ((try simp at hr); (try simp -implicitDefEqProofs); repeat' first | ((with_reducible first | apply gdK_em | apply cdK_em | apply pickK_em)<;>(intro hc; have hc':=hc; (try simp at hc'); simp -implicitDefEqProofs [hc,hc'])) | (with_reducible apply callK_pure<;>first | (simp only [eras,era,eras_map]; first | with_reducible exact hr | simpa using hr) | (simp -implicitDefEqProofs)))
theorem w_rInt {n:Int} (h1 : -9223372036854775808≤n) (h2:n≤9223372036854775807):Pure Tryz.prog 100 [vI n] (sV n 1):=by
 have hr:=w_rquot (n:=n) (d:=1) (by unfold Sm; omega) (by decide) (by decide)
 have e1:lowN n 1=n:=by unfold lowN; rw [Nat.gcd_one_right]; simp
 have e2:lowD n 1=1:=by unfold lowD; simp
 rw [e1,e2] at hr
 have o1:=w_rOf h1 h2
 have o2:=w_rOf (n:=1) (by omega) (by omega)
 have e3:((1:Nat):Int)=1:=rfl
 rw [e3] at hr
 simp only [iV4] at *
 unfold sV at *
 (refine Pure.of_code mix Tryz.call100 k_100 (by simp) (fun hB=>?_); (try simp at hB); (try simp -implicitDefEqProofs [qc_100]))
 ((try simp at o1); (try simp at o2); (try simp at hr); (try simp -implicitDefEqProofs); repeat' first | ((with_reducible first | apply gdK_em | apply cdK_em | apply pickK_em)<;>(intro hc; have hc':=hc; (try simp at hc'); simp -implicitDefEqProofs [hc,hc'])) | (with_reducible apply callK_pure<;>first | (simp only [eras,era,eras_map]; first | with_reducible exact o1 | with_reducible exact o2 | with_reducible exact hr | simpa using o1 | simpa using o2 | simpa using hr) | (simp -implicitDefEqProofs)))
theorem w_rShare {n:Int} (h1 : -9223372036854775808≤n) (h2:n≤9223372036854775807):Pure Tryz.prog 23 [vI n] (sV (lowN n 10000) (lowD n 10000)):=by
 have hr:=w_rquot (n:=n) (d:=10000) (by unfold Sm; omega) (by decide) (by decide)
 have o1:=w_rOf h1 h2
 have o2:=w_rOf (n:=10000) (by omega) (by omega)
 have e3:((10000:Nat):Int)=10000:=rfl
 generalize lowN n 10000=a at *
 generalize lowD n 10000=b at *
 rw [e3] at hr
 simp only [iV4] at *
 unfold sV at *
 (refine Pure.of_code mix Tryz.call23 k_23 (by simp) (fun hB=>?_); (try simp at hB); (try simp -implicitDefEqProofs [qc_23]))
 ((try simp at o1); (try simp at o2); (try simp at hr); (try simp -implicitDefEqProofs); repeat' first | ((with_reducible first | apply gdK_em | apply cdK_em | apply pickK_em)<;>(intro hc; have hc':=hc; (try simp at hc'); simp -implicitDefEqProofs [hc,hc'])) | (with_reducible apply callK_pure<;>first | (simp only [eras,era,eras_map]; first | with_reducible exact o1 | with_reducible exact o2 | with_reducible exact hr | simpa using o1 | simpa using o2 | simpa using hr) | (simp -implicitDefEqProofs)))
theorem w_rParts (n:Int) {d:Nat} (hd:0<d):Pure Tryz.prog 114 [sV n d] (.tup [iV b4 .i64 n,iV b4 .i64 d]):=by
 have hs:=w_rSign (d:Int)
 have s1:sgn (d:Int)=1:=by unfold sgn; rw [if_neg (by omega),if_neg (by omega)]
 rw [s1] at hs
 simp only [iV4] at *
 unfold sV at *
 (refine Pure.of_code mix Tryz.call114 k_114 (by simp) (fun hB=>?_); (try simp at hB); (try simp -implicitDefEqProofs [qc_114]))
 ((try simp at hs); (try simp -implicitDefEqProofs); repeat' first | ((with_reducible first | apply gdK_em | apply cdK_em | apply pickK_em)<;>(intro hc; have hc':=hc; (try simp at hc'); simp -implicitDefEqProofs [hc,hc'])) | (with_reducible apply callK_pure<;>first | (simp only [eras,era,eras_map]; first | with_reducible exact hs | simpa using hs) | (simp -implicitDefEqProofs)))
theorem w_rRMul {a c:Int} {b d:Nat} (hac:Sm (a*c)) (ha:Sm a) (hc:Sm c) (hb:0<b) (hd:0<d) (hbd:b*d<b9):Pure Tryz.prog 99 [sV a b,sV c d] (sV (lowN (a*c) (b*d)) (lowD (a*c) (b*d))):=by
 have hbd0:0<b*d:=Nat.mul_pos hb hd
 have hb':b<b9:=Nat.lt_of_le_of_lt (Nat.le_mul_of_pos_right _ hd) hbd
 have hd':d<b9:=Nat.lt_of_le_of_lt (Nat.le_mul_of_pos_left _ hb) hbd
 have hr:=w_rquot hac hbd0 hbd
 have p1:=w_rParts a hb
 have p2:=w_rParts c hd
 have m1:=w_rMul a c ha.len4 hc.len4
 have m2:=w_rMul b d (Sm.len4 (by unfold Sm; unfold b9 at hb'; omega)) (Sm.len4 (by unfold Sm; unfold b9 at hd'; omega))
 rw [←Int.natCast_mul] at m2
 generalize b*d=e at *
 generalize a*c=f at *
 generalize lowN f e=x at *
 generalize lowD f e=y at *
 simp only [iV4] at *
 unfold sV at *
 (refine Pure.of_code mix Tryz.call99 k_99 (by simp) (fun hB=>?_); (try simp at hB); (try simp -implicitDefEqProofs [qc_99]))
 ((try simp at p1); (try simp at p2); (try simp at m1); (try simp at m2); (try simp at hr); (try simp -implicitDefEqProofs); repeat' first | ((with_reducible first | apply gdK_em | apply cdK_em | apply pickK_em)<;>(intro hc; have hc':=hc; (try simp at hc'); simp -implicitDefEqProofs [hc,hc'])) | (with_reducible apply callK_pure<;>first | (simp only [eras,era,eras_map]; first | with_reducible exact p1 | with_reducible exact p2 | with_reducible exact m1 | with_reducible exact m2 | with_reducible exact hr | simpa using p1 | simpa using p2 | simpa using m1 | simpa using m2 | simpa using hr) | (simp -implicitDefEqProofs)))
theorem w_rRound {a:Int} {b:Nat} (ha:a.natAbs≤1000000000000000000) (hb:0<b) (hbb:2*b<b9):Pure Tryz.prog 98 [sV a b] (iV b4 .i64 (rnd a b)):=by
 have p1:=w_rParts a hb
 have s1:=w_rSign a
 have ab:=w_rAbs a
 have hb1:Sm (b:Int):=by unfold Sm; unfold b9 at hbb; omega
 have h2S:Sm (2:Int):=by unfold Sm; omega
 have haS:Sm (a.natAbs:Int):=by unfold Sm; omega
 have o2:=w_rOf (n:=2) (by omega) (by omega)
 have m1:=w_rMul 2 a.natAbs h2S.len4 haS.len4
 have m2:=w_rMul 2 b h2S.len4 hb1.len4
 have e1:(2:Int)*(a.natAbs:Int)=((2*a.natAbs:Nat):Int):=by omega
 have e2:(2:Int)*(b:Int)=((2*b:Nat):Int):=by omega
 rw [e1] at m1
 rw [e2] at m2
 have k1:=w_rAddS ((2*a.natAbs:Nat):Int) b (Sm.len4 (by unfold Sm; omega)) hb1.len4 (by
  have h1 : ¬((2*a.natAbs:Nat):Int)<0:=by omega
  have h2 : ¬(b:Int)<0:=by omega
  simp only [h1,h2])
 rw [←Int.natCast_add] at k1
 have q:=w_rQuoRem ((2*a.natAbs+b:Nat):Int) ((2*b:Nat):Int) (Sm.len4 (by unfold Sm; unfold b9 at hbb; omega)) (Sm.len4 (by unfold Sm; unfold b9 at hbb; omega)) (by omega)
 have eq:((2*a.natAbs+b:Nat):Int).tdiv ((2*b:Nat):Int)=(((2*a.natAbs+b) / (2*b):Nat):Int):=rfl
 rw [eq] at q
 have ng:=w_rNeg ((((2*a.natAbs+b) / (2*b):Nat)):Int)
 have hR:rnd a b=if a<0 then -((((2*a.natAbs+b) / (2*b):Nat)):Int) else ((((2*a.natAbs+b) / (2*b):Nat)):Int):=rfl
 rw [hR]
 generalize ((((2*a.natAbs+b) / (2*b):Nat)):Int)=R at *
 generalize ((2*a.natAbs+b:Nat):Int).tmod ((2*b:Nat):Int)=m at *
 generalize ((2*a.natAbs+b:Nat):Int)=u at *
 generalize ((2*a.natAbs:Nat):Int)=w at *
 generalize ((2*b:Nat):Int)=v at *
 clear hR e1 e2 eq
 generalize hx:(a.natAbs:Int)=x at *
 by_cases h:a<0
 ·have s2:sgn a<0:=by unfold sgn; rw [if_pos h]; omega
  rw [if_pos h]
  simp only [iV4] at *
  unfold sV at *
  (refine Pure.of_code mix Tryz.call98 k_98 (by simp) (fun hB=>?_); (try simp at hB); (try simp -implicitDefEqProofs [qc_98]))
  ((try simp at p1); (try simp at s1); (try simp at ab); (try simp at o2); (try simp at m1); (try simp at k1); (try simp at m2); (try simp at q); (try simp at ng); (try simp -implicitDefEqProofs [s2]); repeat' first | ((with_reducible first | apply gdK_em | apply cdK_em | apply pickK_em)<;>(intro hc; have hc':=hc; (try simp at hc'); simp -implicitDefEqProofs [hc,hc',s2])) | (with_reducible apply callK_pure<;>first | (simp only [eras,era,eras_map]; first | with_reducible exact p1 | with_reducible exact s1 | with_reducible exact ab | with_reducible exact o2 | with_reducible exact m1 | with_reducible exact k1 | with_reducible exact m2 | with_reducible exact q | with_reducible exact ng | simpa using p1 | simpa using s1 | simpa using ab | simpa using o2 | simpa using m1 | simpa using k1 | simpa using m2 | simpa using q | simpa using ng) | (simp -implicitDefEqProofs [s2])))
  repeat' with_reducible apply And.intro
  all_goals ((try simp at s1); (try simp at ng); (try simp -implicitDefEqProofs [s2]); repeat' first | ((with_reducible first | apply gdK_em | apply cdK_em | apply pickK_em)<;>(intro hc; have hc':=hc; (try simp at hc'); simp -implicitDefEqProofs [hc,hc',s2])) | (with_reducible apply callK_pure<;>first | (simp only [eras,era,eras_map]; first | with_reducible exact s1 | with_reducible exact ng | simpa using s1 | simpa using ng) | (simp -implicitDefEqProofs [s2])))
 ·have s2 : ¬sgn a<0:=by unfold sgn; rw [if_neg h]; split<;>omega
  rw [if_neg h]
  simp only [iV4] at *
  unfold sV at *
  (refine Pure.of_code mix Tryz.call98 k_98 (by simp) (fun hB=>?_); (try simp at hB); (try simp -implicitDefEqProofs [qc_98]))
  ((try simp at p1); (try simp at s1); (try simp at ab); (try simp at o2); (try simp at m1); (try simp at k1); (try simp at m2); (try simp at q); (try simp at ng); (try simp -implicitDefEqProofs [s2]); repeat' first | ((with_reducible first | apply gdK_em | apply cdK_em | apply pickK_em)<;>(intro hc; have hc':=hc; (try simp at hc'); simp -implicitDefEqProofs [hc,hc',s2])) | (with_reducible apply callK_pure<;>first | (simp only [eras,era,eras_map]; first | with_reducible exact p1 | with_reducible exact s1 | with_reducible exact ab | with_reducible exact o2 | with_reducible exact m1 | with_reducible exact k1 | with_reducible exact m2 | with_reducible exact q | with_reducible exact ng | simpa using p1 | simpa using s1 | simpa using ab | simpa using o2 | simpa using m1 | simpa using k1 | simpa using m2 | simpa using q | simpa using ng) | (simp -implicitDefEqProofs [s2])))
  repeat' with_reducible apply And.intro
  all_goals ((try simp at s1); (try simp at ng); (try simp -implicitDefEqProofs [s2]); repeat' first | ((with_reducible first | apply gdK_em | apply cdK_em | apply pickK_em)<;>(intro hc; have hc':=hc; (try simp at hc'); simp -implicitDefEqProofs [hc,hc',s2])) | (with_reducible apply callK_pure<;>first | (simp only [eras,era,eras_map]; first | with_reducible exact s1 | with_reducible exact ng | simpa using s1 | simpa using ng) | (simp -implicitDefEqProofs [s2])))
theorem w_rScale (n p:Int) (q:Nat) (hp:p.natAbs≤100000) (hq:0<q) (hqb:q≤100000):Pure Tryz.prog 78 [vI n,sV p q] (.tup [vI (scaleE n p q).1,vI (scaleE n p q).2]):=by
 have a1:=w_ramt n
 unfold scaleE
 cases hn:amtB n
 ·rw [hn] at a1
  unfold sV
  (refine Pure.of_code mix Tryz.call78 k_78 (by simp) (fun hB=>?_); (try simp at hB); (try simp -implicitDefEqProofs [qc_78]))
  ((try simp at a1); (try simp -implicitDefEqProofs); repeat' first | ((with_reducible first | apply gdK_em | apply cdK_em | apply pickK_em)<;>(intro hc; have hc':=hc; (try simp at hc'); simp -implicitDefEqProofs [hc,hc'])) | (with_reducible apply callK_pure<;>first | (simp only [eras,era,eras_map]; first | with_reducible exact a1 | simpa using a1) | (simp -implicitDefEqProofs)))
 ·rw [hn] at a1
  have hnb:=amt_abs hn
  have hmul:(n*p).natAbs≤100000000000000000:=by
   rw [Int.natAbs_mul]
   exact Nat.le_trans (Nat.mul_le_mul hnb hp) (by decide)
  have o:=w_rInt (n:=n) (by omega) (by omega)
  have e1:((1:Nat):Int)=1:=rfl
  have m:=w_rRMul (a:=n) (c:=p) (b:=1) (d:=q) (by unfold Sm; omega) (by unfold Sm; omega) (by unfold Sm; omega) (by decide) hq (by unfold b9; omega)
  rw [Nat.one_mul,e1] at m
  have hl1:=low_abs (a:=n*p) hq
  have hl2:=low_le (a:=n*p) (q:=q)
  have hl3:=low_pos (a:=n*p) hq
  have r:=w_rRound (a:=lowN (n*p) q) (b:=lowD (n*p) q) (by omega) hl3 (by unfold b9; omega)
  rw [rnd_low hq] at r
  have hrb:=rnd_abs (a:=n*p) hq
  have sm:=w_rSmall (rnd (n*p) q) (by omega)
  have a2:=w_ramt (rnd (n*p) q)
  generalize lowN (n*p) q=x at *
  generalize lowD (n*p) q=y at *
  generalize rnd (n*p) q=z at *
  simp only [iV4] at *
  unfold sV at *
  cases hz:amtB z
  ·rw [hz] at a2
   (refine Pure.of_code mix Tryz.call78 k_78 (by simp) (fun hB=>?_); (try simp at hB); (try simp -implicitDefEqProofs [qc_78]))
   ((try simp at a1); (try simp at a2); (try simp at o); (try simp at m); (try simp at r); (try simp at sm); (try simp -implicitDefEqProofs); repeat' first | ((with_reducible first | apply gdK_em | apply cdK_em | apply pickK_em)<;>(intro hc; have hc':=hc; (try simp at hc'); simp -implicitDefEqProofs [hc,hc'])) | (with_reducible apply callK_pure<;>first | (simp only [eras,era,eras_map]; first | with_reducible exact a1 | with_reducible exact a2 | with_reducible exact o | with_reducible exact m | with_reducible exact r | with_reducible exact sm | simpa using a1 | simpa using a2 | simpa using o | simpa using m | simpa using r | simpa using sm) | (simp -implicitDefEqProofs)))
  ·rw [hz] at a2
   (refine Pure.of_code mix Tryz.call78 k_78 (by simp) (fun hB=>?_); (try simp at hB); (try simp -implicitDefEqProofs [qc_78]))
   ((try simp at a1); (try simp at a2); (try simp at o); (try simp at m); (try simp at r); (try simp at sm); (try simp -implicitDefEqProofs); repeat' first | ((with_reducible first | apply gdK_em | apply cdK_em | apply pickK_em)<;>(intro hc; have hc':=hc; (try simp at hc'); simp -implicitDefEqProofs [hc,hc'])) | (with_reducible apply callK_pure<;>first | (simp only [eras,era,eras_map]; first | with_reducible exact a1 | with_reducible exact a2 | with_reducible exact o | with_reducible exact m | with_reducible exact r | with_reducible exact sm | simpa using a1 | simpa using a2 | simpa using o | simpa using m | simpa using r | simpa using sm) | (simp -implicitDefEqProofs)))
end Go.Proofs.YtmlpmdccfmmpoaaGreat
end
section
set_option linter.unusedSimpArgs false
set_option linter.unusedVariables false
set_option maxHeartbeats 1000000
set_option maxRecDepth 8000
namespace Go.Proofs.YtmlpmdccfmmpoaaGreat
open E

def takR (op:Int):Int×Int:=if 1≤op∧op≤4 then (0,1) else if 5≤op∧op≤9 then (1,1) else if 10≤op∧op≤22 then (2,1) else if 23≤op∧op≤25 then (1,0) else (0,0)
def useR (op:Int):Int:=if op=3∨op=4 then 2 else if op=1∨op=2∨op=9∨op=23∨op=25∨op=26 then 1 else 0
def fineR (x:Ins) (loc:Int) (pair:Bool):Bool:=
 if x.op=1 then amtB x.a
 else if x.op=2 then decide (0≤x.a)&&decide (x.a<loc)
 else if x.op=3∨x.op=4 then accB x.a&&accB x.b&&decide (x.a≤x.b)&&(pair||(x.op==3))
 else if x.op=9 then decide (1≤x.a)&&decide (x.a≤1000000000000)
 else if x.op=23 then (x.a==loc)
 else if x.op=25∨x.op=26 then accB x.a
 else (x.a==0)

theorem w_rtak (op:Int):Pure Tryz.prog 73 [vI op] (.tup [vI (takR op).1,vI (takR op).2]):=by
 unfold takR
 (refine Pure.of_code mix Tryz.call73 k_73 (by simp) (fun hB=>?_); (try simp at hB); (try simp -implicitDefEqProofs [qc_73]))
 ((try simp -implicitDefEqProofs); repeat' first | ((with_reducible first | apply gdK_em | apply cdK_em | apply pickK_em)<;>(intro hc; have hc':=hc; (try simp at hc'); simp -implicitDefEqProofs [hc,hc'])))
 all_goals ((repeat' split)<;>simp_all<;>omega)
theorem w_ruse (op:Int):Pure Tryz.prog 74 [vI op] (vI (useR op)):=by
 unfold useR
 (refine Pure.of_code mix Tryz.call74 k_74 (by simp) (fun hB=>?_); (try simp at hB); (try simp -implicitDefEqProofs [qc_74]))
 ((try simp -implicitDefEqProofs); repeat' first | ((with_reducible first | apply gdK_em | apply cdK_em | apply pickK_em)<;>(intro hc; have hc':=hc; (try simp at hc'); simp -implicitDefEqProofs [hc,hc'])))
 all_goals ((repeat' split)<;>simp_all)
theorem w_rfine (x:Ins) (loc:Int) (pair:Bool):Pure Tryz.prog 75 [x.v,vI loc,vB pair] (vB (fineR x loc pair)):=by
 obtain⟨op,a,b⟩:=x
 unfold fineR
 (refine Pure.of_code mix Tryz.call75 k_75 (by simp) (fun hB=>?_); (try simp at hB); (try simp -implicitDefEqProofs [qc_75]))
 ((try simp -implicitDefEqProofs); repeat' first | ((with_reducible first | apply gdK_em | apply cdK_em | apply pickK_em)<;>(intro hc; have hc':=hc; (try simp at hc'); simp -implicitDefEqProofs [hc,hc'])) | (with_reducible apply callK_pure<;>first | (simp only [eras,era,eras_map]; first | with_reducible exact (w_ramt _) | with_reducible exact (w_racc _) | simpa using (w_ramt _) | simpa using (w_racc _)) | (simp -implicitDefEqProofs)))
end Go.Proofs.YtmlpmdccfmmpoaaGreat
end
