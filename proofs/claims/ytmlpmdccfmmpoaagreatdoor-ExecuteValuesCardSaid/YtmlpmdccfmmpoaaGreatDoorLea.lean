/- Chapter 35's laws: few, sources, codes, before. -/
import Derived.Test.YtmlpmdccfmmpoaaGreatDoorInb
import Derived.Test.YtmlpmdccfmmpoaaGreatDoorMea
import Derived.Test.YtmlpmdccfmmpoaaGreatDoorExH
set_option linter.unusedSimpArgs false
set_option linter.unusedVariables false
set_option maxHeartbeats 4000000
set_option maxRecDepth 8000
namespace Go.Proofs.YtmlpmdccfmmpoaaGreatDoor
open E
theorem Sm.len4 {z:Int} (h:Sm z):(A5 b4 z.natAbs).length≤900:=by
 have:=C4 (B:=b4) (n:=z.natAbs) (k:=7) Au (by unfold Sm at h;unfold b4;omega)
 omega
theorem A2a {n:Int} {d:Nat} (hn:Sm n) (hd:0<d) (hdb:d<b9):A3 Tryz.prog 111 [iV b4 .i64 n,iV b4 .i64 d] (.tup [sV (Bn n d) (Bo n d),vI 0]):=by
 have hdn:((d:Int)).natAbs=d:=Int.natAbs_natCast d
 have hdS:Sm (d:Int):=by unfold Sm;unfold b9 at hdb;omega
 have hg:=A29 n d hn.len4 hdS.len4
 rw [hdn] at hg
 have hg0:=Hb (a:=n) hd
 have hgd:Nat.gcd n.natAbs d≤d:=Nat.gcd_le_right _ hd
 have hgS:Sm ((Nat.gcd n.natAbs d:Nat):Int):=by unfold Sm;unfold b9 at hdb;omega
 have hs:=He (d:Int)
 have s1:sgn (d:Int)=1:=by unfold sgn;rw [if_neg (by omega),if_neg (by omega)]
 rw [s1] at hs
 have q1:=I1 n (Nat.gcd n.natAbs d:Nat) hn.len4 hgS.len4 (by omega)
 have q2:=I1 d (Nat.gcd n.natAbs d:Nat) hdS.len4 hgS.len4 (by omega)
 have e2:(d:Int).tdiv (Nat.gcd n.natAbs d:Nat)=(Bo n d:Nat):=rfl
 have e1:n.tdiv (Nat.gcd n.natAbs d:Nat)=Bn n d:=rfl
 rw [e1] at q1
 rw [e2] at q2
 generalize Bn n d=a at *
 generalize Bo n d=b at *
 generalize Nat.gcd n.natAbs d=g at *
 generalize n.tmod (g:Nat)=m1 at *
 generalize (d:Int).tmod (g:Nat)=m2 at *
 simp only [iV4] at *
 unfold sV
 (refine A3.of_code mix Tryz.call111 k_111 (by simp) (fun hB=>?_);(try simp at hB);(try simp -implicitDefEqProofs))
 ((try simp at hg hs q1 q2);(try simp -implicitDefEqProofs);repeat' first|(with_reducible apply A0<;>first|(simp only [eras,era,A1];first|with_reducible assumption)|(simp -implicitDefEqProofs)))
theorem Mx {n:Int} {d:Nat} (hn:Sm n) (hd:0<d) (hdb:d<b9):A3 Tryz.prog 60 [iV b4 .i64 n,iV b4 .i64 d] (sV (Bn n d) (Bo n d)):=by
 have hr:=A2a hn hd hdb
 generalize Bn n d=a at *
 generalize Bo n d=b at *
 simp only [iV4] at *
 unfold sV at *
 (refine A3.of_code mix Tryz.call60 k_60 (by simp) (fun hB=>?_);(try simp at hB);(try simp -implicitDefEqProofs))
 ((try simp at hr);(try simp -implicitDefEqProofs);repeat' first|(with_reducible apply A0<;>first|(simp only [eras,era,A1];first|with_reducible assumption)|(simp -implicitDefEqProofs)))
theorem A2b {n:Int} (h1 : -9223372036854775808≤n) (h2:n≤9223372036854775807):A3 Tryz.prog 126 [vI n] (sV n 1):=by
 have hr:=Mx (n:=n) (d:=1) (by unfold Sm;omega) (by decide) (by decide)
 have e1:Bn n 1=n:=by unfold Bn;rw [Nat.gcd_one_right];simp
 have e2:Bo n 1=1:=by unfold Bo;simp
 rw [e1,e2] at hr
 have o1:=Lf h1 h2
 have o2:=Lf (n:=1) (by omega) (by omega)
 have e3:((1:Nat):Int)=1:=rfl
 rw [e3] at hr
 simp only [iV4] at *
 unfold sV at *
 (refine A3.of_code mix Tryz.call126 k_126 (by simp) (fun hB=>?_);(try simp at hB);(try simp -implicitDefEqProofs))
 ((try simp at o1 o2 hr);(try simp -implicitDefEqProofs);repeat' first|(with_reducible apply A0<;>first|(simp only [eras,era,A1];first|with_reducible assumption)|(simp -implicitDefEqProofs)))
theorem Wy {n:Int} (h1 : -9223372036854775808≤n) (h2:n≤9223372036854775807):A3 Tryz.prog 26 [vI n] (sV (Bn n 10000) (Bo n 10000)):=by
 have hr:=Mx (n:=n) (d:=10000) (by unfold Sm;omega) (by decide) (by decide)
 have o1:=Lf h1 h2
 have o2:=Lf (n:=10000) (by omega) (by omega)
 have e3:((10000:Nat):Int)=10000:=rfl
 generalize Bn n 10000=a at *
 generalize Bo n 10000=b at *
 rw [e3] at hr
 simp only [iV4] at *
 unfold sV at *
 (refine A3.of_code mix Tryz.call26 k_26 (by simp) (fun hB=>?_);(try simp at hB);(try simp -implicitDefEqProofs))
 ((try simp at o1 o2 hr);(try simp -implicitDefEqProofs);repeat' first|(with_reducible apply A0<;>first|(simp only [eras,era,A1];first|with_reducible assumption)|(simp -implicitDefEqProofs)))
theorem Kf (n:Int) {d:Nat} (hd:0<d):A3 Tryz.prog 157 [sV n d] (.tup [iV b4 .i64 n,iV b4 .i64 d]):=by
 have hs:=He (d:Int)
 have s1:sgn (d:Int)=1:=by unfold sgn;rw [if_neg (by omega),if_neg (by omega)]
 rw [s1] at hs
 simp only [iV4] at *
 unfold sV at *
 (refine A3.of_code mix Tryz.call157 k_157 (by simp) (fun hB=>?_);(try simp at hB);(try simp -implicitDefEqProofs))
 ((try simp at hs);(try simp -implicitDefEqProofs);repeat' first|(with_reducible apply A0<;>first|(simp only [eras,era,A1];first|with_reducible assumption)|(simp -implicitDefEqProofs)))
theorem Zd {a c:Int} {b d:Nat} (hac:Sm (a*c)) (ha:Sm a) (hc:Sm c) (hb:0<b) (hd:0<d) (hbd:b*d<b9):A3 Tryz.prog 125 [sV a b,sV c d] (sV (Bn (a*c) (b*d)) (Bo (a*c) (b*d))):=by
 have hbd0:0<b*d:=Nat.mul_pos hb hd
 have hb':b<b9:=Nat.lt_of_le_of_lt (Nat.le_mul_of_pos_right _ hd) hbd
 have hd':d<b9:=Nat.lt_of_le_of_lt (Nat.le_mul_of_pos_left _ hb) hbd
 have hr:=Mx hac hbd0 hbd
 have p1:=Kf a hb
 have p2:=Kf c hd
 have m1:=Mw a c ha.len4 hc.len4
 have m2:=Mw b d (Sm.len4 (by unfold Sm;unfold b9 at hb';omega)) (Sm.len4 (by unfold Sm;unfold b9 at hd';omega))
 rw [←Int.natCast_mul] at m2
 generalize b*d=e at *
 generalize a*c=f at *
 generalize Bn f e=x at *
 generalize Bo f e=y at *
 simp only [iV4] at *
 unfold sV at *
 (refine A3.of_code mix Tryz.call125 k_125 (by simp) (fun hB=>?_);(try simp at hB);(try simp -implicitDefEqProofs))
 ((try simp at p1 p2 m1 m2 hr);(try simp -implicitDefEqProofs);repeat' first|(with_reducible apply A0<;>first|(simp only [eras,era,A1];first|with_reducible assumption)|(simp -implicitDefEqProofs)))
theorem Wz {a:Int} {b:Nat} (ha:a.natAbs≤1000000000000000000) (hb:0<b) (hbb:2*b<b9):A3 Tryz.prog 124 [sV a b] (iV b4 .i64 (rnd a b)):=by
 have p1:=Kf a hb
 have s1:=He a
 have ab:=A1s a
 have hb1:Sm (b:Int):=by unfold Sm;unfold b9 at hbb;omega
 have h2S:Sm (2:Int):=by unfold Sm;omega
 have haS:Sm (a.natAbs:Int):=by unfold Sm;omega
 have o2:=Lf (n:=2) (by omega) (by omega)
 have m1:=Mw 2 a.natAbs h2S.len4 haS.len4
 have m2:=Mw 2 b h2S.len4 hb1.len4
 have e1:(2:Int)*(a.natAbs:Int)=((2*a.natAbs:Nat):Int):=by omega
 have e2:(2:Int)*(b:Int)=((2*b:Nat):Int):=by omega
 rw [e1] at m1
 rw [e2] at m2
 have k1:=S9 ((2*a.natAbs:Nat):Int) b (Sm.len4 (by unfold Sm;omega)) hb1.len4 (by
  have h1 : ¬((2*a.natAbs:Nat):Int)<0:=by omega
  have h2 : ¬(b:Int)<0:=by omega
  simp only [h1,h2])
 rw [←Int.natCast_add] at k1
 have q:=I1 ((2*a.natAbs+b:Nat):Int) ((2*b:Nat):Int) (Sm.len4 (by unfold Sm;unfold b9 at hbb;omega)) (Sm.len4 (by unfold Sm;unfold b9 at hbb;omega)) (by omega)
 have eq:((2*a.natAbs+b:Nat):Int).tdiv ((2*b:Nat):Int)=(((2*a.natAbs+b) / (2*b):Nat):Int):=rfl
 rw [eq] at q
 have ng:=Vv ((((2*a.natAbs+b) / (2*b):Nat)):Int)
 have hR:rnd a b=if a<0 then -((((2*a.natAbs+b) / (2*b):Nat)):Int) else ((((2*a.natAbs+b) / (2*b):Nat)):Int):=rfl
 rw [hR]
 generalize ((((2*a.natAbs+b) / (2*b):Nat)):Int)=R at *
 generalize ((2*a.natAbs+b:Nat):Int).tmod ((2*b:Nat):Int)=m at *
 generalize ((2*a.natAbs+b:Nat):Int)=u at *
 generalize ((2*a.natAbs:Nat):Int)=w at *
 generalize ((2*b:Nat):Int)=v at *
 clear hR e1 e2 eq
 generalize hx:(a.natAbs:Int)=x at *
 by_cases h:a<0
 ·have s2:sgn a<0:=by unfold sgn;rw [if_pos h];omega
  rw [if_pos h]
  simp only [iV4] at *
  unfold sV at *
  (refine A3.of_code mix Tryz.call124 k_124 (by simp) (fun hB=>?_);(try simp at hB);(try simp -implicitDefEqProofs))
  ((try simp at p1 s1 ab o2 m1 k1 m2 q ng);(try simp -implicitDefEqProofs [s2]);repeat' first|(with_reducible apply A0<;>first|(simp only [eras,era,A1];first|with_reducible assumption)|(simp -implicitDefEqProofs [s2])))
  repeat' with_reducible apply And.intro
  all_goals ((try simp at s1 ng);(try simp -implicitDefEqProofs [s2]);repeat' first|(with_reducible apply A0<;>first|(simp only [eras,era,A1];first|with_reducible assumption)|(simp -implicitDefEqProofs [s2])))
 ·have s2 : ¬sgn a<0:=by unfold sgn;rw [if_neg h];split<;>omega
  rw [if_neg h]
  simp only [iV4] at *
  unfold sV at *
  (refine A3.of_code mix Tryz.call124 k_124 (by simp) (fun hB=>?_);(try simp at hB);(try simp -implicitDefEqProofs))
  ((try simp at p1 s1 ab o2 m1 k1 m2 q ng);(try simp -implicitDefEqProofs [s2]);repeat' first|(with_reducible apply A0<;>first|(simp only [eras,era,A1];first|with_reducible assumption)|(simp -implicitDefEqProofs [s2])))
  repeat' with_reducible apply And.intro
  all_goals ((try simp at s1 ng);(try simp -implicitDefEqProofs [s2]);repeat' first|(with_reducible apply A0<;>first|(simp only [eras,era,A1];first|with_reducible assumption)|(simp -implicitDefEqProofs [s2])))
theorem X0 (n p:Int) (q:Nat) (hp:p.natAbs≤100000) (hq:0<q) (hqb:q≤100000):A3 Tryz.prog 81 [vI n,sV p q] (.tup [vI (D3 n p q).1,vI (D3 n p q).2]):=by
 have a1:=Bh n
 unfold D3
 cases hn:Ag n
 ·rw [hn] at a1
  unfold sV
  (refine A3.of_code mix Tryz.call81 k_81 (by simp) (fun hB=>?_);(try simp at hB);(try simp -implicitDefEqProofs))
  ((try simp at a1);(try simp -implicitDefEqProofs);repeat' first|(with_reducible apply A0<;>first|(simp only [eras,era,A1];first|with_reducible assumption)|(simp -implicitDefEqProofs)))
 ·rw [hn] at a1
  have hnb:=S5 hn
  have hmul:(n*p).natAbs≤100000000000000000:=by
   rw [Int.natAbs_mul]
   exact Nat.le_trans (Nat.mul_le_mul hnb hp) (by decide)
  have o:=A2b (n:=n) (by omega) (by omega)
  have e1:((1:Nat):Int)=1:=rfl
  have m:=Zd (a:=n) (c:=p) (b:=1) (d:=q) (by unfold Sm;omega) (by unfold Sm;omega) (by unfold Sm;omega) (by decide) hq (by unfold b9;omega)
  rw [Nat.one_mul,e1] at m
  have hl1:=Mi (a:=n*p) hq
  have hl2:=Qt (a:=n*p) (q:=q)
  have hl3:=Mh (a:=n*p) hq
  have r:=Wz (a:=Bn (n*p) q) (b:=Bo (n*p) q) (by omega) hl3 (by unfold b9;omega)
  rw [Rv hq] at r
  have hrb:=Rw (a:=n*p) hq
  have sm:=Wx (rnd (n*p) q) (by omega)
  have a2:=Bh (rnd (n*p) q)
  generalize Bn (n*p) q=x at *
  generalize Bo (n*p) q=y at *
  generalize rnd (n*p) q=z at *
  simp only [iV4] at *
  unfold sV at *
  cases hz:Ag z
  ·rw [hz] at a2
   (refine A3.of_code mix Tryz.call81 k_81 (by simp) (fun hB=>?_);(try simp at hB);(try simp -implicitDefEqProofs))
   ((try simp at a1 a2 o m r sm);(try simp -implicitDefEqProofs);repeat' first|(with_reducible apply A0<;>first|(simp only [eras,era,A1];first|with_reducible assumption)|(simp -implicitDefEqProofs)))
  ·rw [hz] at a2
   (refine A3.of_code mix Tryz.call81 k_81 (by simp) (fun hB=>?_);(try simp at hB);(try simp -implicitDefEqProofs))
   ((try simp at a1 a2 o m r sm);(try simp -implicitDefEqProofs);repeat' first|(with_reducible apply A0<;>first|(simp only [eras,era,A1];first|with_reducible assumption)|(simp -implicitDefEqProofs)))
def F5 (op:Int):Int×Int:=if 1≤op∧op≤4 then (0,1) else if 5≤op∧op≤9 then (1,1) else if 10≤op∧op≤22 then (2,1) else if 23≤op∧op≤25 then (1,0) else (0,0)
def A56 (op:Int):Int:=if op=3∨op=4 then 2 else if op=1∨op=2∨op=9∨op=23∨op=25∨op=26 then 1 else 0
theorem My (op:Int):A3 Tryz.prog 78 [vI op] (.tup [vI (F5 op).1,vI (F5 op).2]):=by
 unfold F5
 (refine A3.of_code mix Tryz.call78 k_78 (by simp) (fun hB=>?_);(try simp at hB);(try simp -implicitDefEqProofs))
 ((try simp -implicitDefEqProofs);repeat' first|((with_reducible first|apply Ad|apply Ae|apply A8)<;>(intro hc;have hc':=hc;(try simp at hc');simp -implicitDefEqProofs [hc,hc'])))
 all_goals ((repeat' split)<;>simp_all<;>omega)
theorem Ze {n:Nat} (h:n≤26):(F5 n).1=tk n∧(F5 n).2=pt n∧A56 n=us n:=by
 rcases (by omega:n=0∨n=1∨n=2∨n=3∨n=4∨n=5∨n=6∨n=7∨n=8∨n=9∨n=10∨n=11∨n=12∨n=13∨n=14∨n=15∨n=16∨n=17∨n=18∨n=19∨n=20∨n=21∨n=22∨n=23∨n=24∨n=25∨n=26) with rfl|rfl|rfl|rfl|rfl|rfl|rfl|rfl|rfl|rfl|rfl|rfl|rfl|rfl|rfl|rfl|rfl|rfl|rfl|rfl|rfl|rfl|rfl|rfl|rfl|rfl|rfl<;>decide
def Hm (c:Code):Bool:=decide (c.name.length≤100)&&decide (c.ins.length≤400)
theorem A2c (c:Code):A3 Tryz.prog 25 [c.v] (vB (Hm c)):=by
 obtain⟨cn,pair,ins⟩:=c
 unfold Hm
 rcases (by omega:cn.length≤100∨100<cn.length) with h1|h1<;>rcases (by omega:ins.length≤400∨400<ins.length) with h2|h2
 ·(refine A3.of_code mix Tryz.call25 k_25 (by simp) (fun hB=>?_);(try simp at hB);(try simp -implicitDefEqProofs))
  have h1':(cn.length:Int)≤100:=by omega
  have h2':(ins.length:Int)≤400:=by omega
  ((try simp -implicitDefEqProofs [h1,h2,h1',h2']);repeat' first|((with_reducible first|apply Ad|apply Ae|apply A8)<;>(intro hc;have hc':=hc;(try simp at hc');simp -implicitDefEqProofs [hc,hc',h1,h2,h1',h2'])))
 ·(refine A3.of_code mix Tryz.call25 k_25 (by simp) (fun hB=>?_);(try simp at hB);(try simp -implicitDefEqProofs))
  have h1':(cn.length:Int)≤100:=by omega
  have h2' : ¬(ins.length:Int)≤400:=by omega
  have h2n : ¬ins.length≤400:=by omega
  ((try simp -implicitDefEqProofs [h1,h2,h2n,h1',h2']);repeat' first|((with_reducible first|apply Ad|apply Ae|apply A8)<;>(intro hc;have hc':=hc;(try simp at hc');simp -implicitDefEqProofs [hc,hc',h1,h2,h2n,h1',h2'])))
 ·(refine A3.of_code mix Tryz.call25 k_25 (by simp) (fun hB=>?_);(try simp at hB);(try simp -implicitDefEqProofs))
  have h1' : ¬(cn.length:Int)≤100:=by omega
  have h1n : ¬cn.length≤100:=by omega
  ((try simp -implicitDefEqProofs [h1,h2,h1n,h1']);repeat' first|((with_reducible first|apply Ad|apply Ae|apply A8)<;>(intro hc;have hc':=hc;(try simp at hc');simp -implicitDefEqProofs [hc,hc',h1,h2,h1n,h1'])))
 ·(refine A3.of_code mix Tryz.call25 k_25 (by simp) (fun hB=>?_);(try simp at hB);(try simp -implicitDefEqProofs))
  have h1' : ¬(cn.length:Int)≤100:=by omega
  have h1n : ¬cn.length≤100:=by omega
  ((try simp -implicitDefEqProofs [h1,h2,h1n,h1']);repeat' first|((with_reducible first|apply Ad|apply Ae|apply A8)<;>(intro hc;have hc':=hc;(try simp at hc');simp -implicitDefEqProofs [hc,hc',h1,h2,h1n,h1'])))
def Src.q (s:Src):List T:=[.int .i64 s.ent,.bool s.full]++sC s.num s.den++[.sl (s.items.map Item.c)]
def Src.qv (s:Src):V:=.agg [vI s.ent,vB s.full,.t (.bool (nB s.num)),.t (.sl (qE s.num)),.t (.bool (nB s.den)),.t (.sl (qE s.den)),.t (.sl (s.items.map Item.c))]
def Src.ql (l:List Src):V:=.t (.sl (l.map Src.q))
structure Sou where
 ent:Int
 full:Bool
 sh:Int
 items:List Item
def Sou.c (x:Sou):List T:=[.int .i64 x.ent,.bool x.full,.int .i16 x.sh,.sl (x.items.map Item.c)]
abbrev Sou.l (l:List Sou):V:=.t (.sl (l.map Sou.c))
def Sou.src (x:Sou):Src:=⟨x.ent,x.full,Bn x.sh 10000,Bo x.sh 10000,x.items⟩
def Sou.wf (x:Sou):Prop:=-32768≤x.sh∧x.sh≤32767
def R4 (l:List Sou) (cs:List Code):Bool:=(l.all fun e=>decide (e.items.length≤60))&&(cs.all Hm)&&decide (l.length≤13)&&decide (cs.length≤10)
theorem Zf (l:List Sou) (cs:List Code):A3 Tryz.prog 9 [Sou.l l,Code.l cs] (vB (R4 l cs)):=by
 generalize hR:vB (R4 l cs)=R
 unfold R4 at hR
 (refine A3.of_code mix Tryz.call9 k_9 (by simp) (fun hB=>?_);(try simp at hB);(try simp -implicitDefEqProofs))
 refine A6 (X:=Nat) (fun k=>k≤l.length∧∀y∈l.take k,y.items.length≤60) (fun k=>[(0,Sou.l l),(1,Code.l cs),(5,vI k)]) (fun _=>St0) (fun k=>l.length-k) 0 ⟨by simp,by simp⟩ (by simp) ?_
 rintro k ⟨hk,hn⟩ hbd
 rcases Nat.lt_or_ge k l.length with h|h
 ·obtain⟨x,hx⟩:=Ab h
  have e3:IntKind.i64.wrap ((k:Int)+1)=(k:Int)+1:=wrap64 (by omega) (by simp [maxLen] at hB;omega)
  have hxc:(l.map Sou.c)[k]?=some x.c:=by simp [hx]
  have hxc' : ∀h,(l.map Sou.c)[k]'h=x.c:=fun h=>by rw [List.getElem?_eq_getElem h] at hxc;exact Option.some.inj hxc
  obtain⟨ent,full,sh,items⟩:=x
  by_cases h6:items.length≤60
  ·have h6' : ¬(60:Int)<items.length:=by omega
   have h6n : ¬60<items.length:=by omega
   have hst : ∃z':Nat,(z'≤l.length∧∀y∈l.take z',y.items.length≤60)∧l.length-z'<l.length-k∧(z':Int)=(k:Int)+1:=by
    refine⟨k+1,⟨by omega,fun y hy=>?_⟩,by omega,by push_cast;rfl⟩
    rw [Ah hx] at hy
    rcases List.mem_append.1 hy with h1|h1
    ·exact hn y h1
    ·simp at h1;subst h1;exact h6
   clear hbd hB
   (try simp -implicitDefEqProofs [h,hxc,hxc',Sou.c,h6,h6n,h6',e3])
   exact hst
  ·have h6':(60:Int)<items.length:=by omega
   have h6n:60<items.length:=by omega
   have hm:=List.mem_of_getElem? hx
   have hf:(l.all fun e=>decide (e.items.length≤60))=false:=by
    rw [List.all_eq_false];exact⟨_,hm,by simpa using h6⟩
   rw [hf] at hR
   simp only [Bool.false_and] at hR
   subst hR
   clear hbd hB
   (try simp -implicitDefEqProofs [h,hxc,hxc',Sou.c,h6,h6n,h6',e3])
 have hall:(l.all fun e=>decide (e.items.length≤60))=true:=by
  rw [List.all_eq_true];intro y hy
  rw [List.take_of_length_le (by omega)] at hn
  simpa using hn y hy
 have hke:k=l.length:=by omega
 subst hke
 rw [hall] at hR
 simp only [Bool.true_and] at hR
 clear hbd
 (try simp -implicitDefEqProofs)
 refine A6 (X:=Nat) (fun k=>k≤cs.length∧∀y∈cs.take k,Hm y=true) (fun k=>[(0,Sou.l l),(1,Code.l cs),(6,vI k)]) (fun _=>St0) (fun k=>cs.length-k) 0 ⟨by simp,by simp⟩ (by simp) ?_
 rintro k ⟨hk,hn⟩ hbd
 rcases Nat.lt_or_ge k cs.length with h|h
 ·obtain⟨x,hx⟩:=Ab h
  have e3:IntKind.i64.wrap ((k:Int)+1)=(k:Int)+1:=wrap64 (by omega) (by simp [maxLen] at hB;omega)
  have hxc:(cs.map Code.c)[k]?=some x.c:=by simp [hx]
  have hxc' : ∀h,(cs.map Code.c)[k]'h=x.c:=fun h=>by rw [List.getElem?_eq_getElem h] at hxc;exact Option.some.inj hxc
  have hf:=A2c x
  have hm:=List.mem_of_getElem? hx
  generalize hfx:Hm x=fx at *
  obtain⟨cn,pair,ins⟩:=x
  cases fx
  ·have hf2:(cs.all Hm)=false:=by
    rw [List.all_eq_false];exact⟨_,hm,by simp [hfx]⟩
   rw [hf2] at hR
   simp only [Bool.false_and] at hR
   subst hR
   clear hbd hB
   ((try simp at hf);(try simp -implicitDefEqProofs [h,hxc,hxc',Code.c,e3]);repeat' first|(with_reducible apply A0<;>first|(simp only [eras,era,A1];first|with_reducible assumption)|(simp -implicitDefEqProofs [h,hxc,hxc',Code.c,e3])))
  ·have hst : ∃z':Nat,(z'≤cs.length∧∀y∈cs.take z',Hm y=true)∧cs.length-z'<cs.length-k∧(z':Int)=(k:Int)+1:=by
    refine⟨k+1,⟨by omega,fun y hy=>?_⟩,by omega,by push_cast;rfl⟩
    rw [Ah hx] at hy
    rcases List.mem_append.1 hy with h1|h1
    ·exact hn y h1
    ·simp at h1;subst h1;exact hfx
   clear hbd hB
   ((try simp at hf);(try simp -implicitDefEqProofs [h,hxc,hxc',Code.c,e3]);repeat' first|(with_reducible apply A0<;>first|(simp only [eras,era,A1];first|with_reducible assumption)|(simp -implicitDefEqProofs [h,hxc,hxc',Code.c,e3])))
   exact hst
 have hall2:(cs.all Hm)=true:=by
  rw [List.all_eq_true];intro y hy
  rw [List.take_of_length_le (by omega)] at hn
  exact hn y hy
 have hke:k=cs.length:=by omega
 subst hke
 rw [hall2] at hR
 simp only [Bool.true_and] at hR
 clear hbd
 have d1:decide (l.length≤13)=decide ((l.length:Int)≤13):=by rw [decide_eq_decide];omega
 have d2:decide (cs.length≤10)=decide ((cs.length:Int)≤10):=by rw [decide_eq_decide];omega
 rw [d1,d2] at hR
 subst hR
 ((try simp -implicitDefEqProofs);repeat' first|((with_reducible first|apply Ad|apply Ae|apply A8)<;>(intro hc;have hc':=hc;(try simp at hc');simp -implicitDefEqProofs [hc,hc'])))
theorem Ub (l:List Sou) (hl:l.length≤1000) (hw : ∀x∈l,x.wf):A3 Tryz.prog 10 [Sou.l l] (.tup [Src.l (l.map Sou.src),Src.ql (l.map Sou.src)]):=by
 unfold Src.l Src.ql
 (refine A3.of_code mix Tryz.call10 k_10 (by simp) (fun hB=>?_);(try simp at hB);(try simp -implicitDefEqProofs))
 refine Bd [(.slot 4,68,7),(.slot 5,110,7)] (X:=Nat) (fun k=>k≤l.length) (fun k=>[(0,Sou.l l),(4,.own 0 68 7 ((l.map Sou.src).map Src.c |>.take k)),(5,.own 1 110 7 ((l.map Sou.src).map Src.q |>.take k)),(6,vI k)])
  (fun k=>⟨[],[k,k]⟩) (fun k=>l.length-k) 0 (by omega) (by simp) ?_
 rintro k hk hbd
 clear hbd
 rcases Nat.lt_or_ge k l.length with h|h
 ·obtain⟨x,hx⟩:=Ab h
  have e3:IntKind.i64.wrap ((k:Int)+1)=(k:Int)+1:=wrap64 (by omega) (by omega)
  have hxw:=hw x (List.mem_of_getElem? hx)
  have r1:=Ah (l:=(l.map Sou.src).map Src.c) (k:=k) (x:=x.src.c) (by simp [hx])
  have r2:=Ah (l:=(l.map Sou.src).map Src.q) (k:=k) (x:=x.src.q) (by simp [hx])
  have l1:(((l.map Sou.src).map Src.c).take k).length=k:=by simp;omega
  have l2:(((l.map Sou.src).map Src.q).take k).length=k:=by simp;omega
  generalize ((l.map Sou.src).map Src.c).take k=A at *
  generalize ((l.map Sou.src).map Src.q).take k=B at *
  have hxc:(l.map Sou.c)[k]?=some x.c:=by simp [hx]
  have hxc' : ∀h,(l.map Sou.c)[k]'h=x.c:=fun h=>by rw [List.getElem?_eq_getElem h] at hxc;exact Option.some.inj hxc
  obtain⟨ent,full,sh,items⟩:=x
  unfold Sou.wf at hxw
  simp only [] at hxw
  have w1:=W9 (n:=sh) (d:=10000) (by omega) (by omega) (by decide) (by decide)
  have w2:=Wy (n:=sh) (by omega) (by omega)
  have sc:Src.c (Sou.src ⟨ent,full,sh,items⟩)=[.int .i64 ent,.bool full,.bool (nB (Bn sh 10000)),.sl (pE (Bn sh 10000)),.bool (nB (Bo sh 10000)),.sl (pE (Bo sh 10000)),.sl (items.map Item.c)]:=rfl
  have sq:Src.q (Sou.src ⟨ent,full,sh,items⟩)=[.int .i64 ent,.bool full,.bool (nB (Bn sh 10000)),.sl (qE (Bn sh 10000)),.bool (nB (Bo sh 10000)),.sl (qE (Bo sh 10000)),.sl (items.map Item.c)]:=rfl
  rw [sc] at r1
  rw [sq] at r2
  unfold rV at w1
  unfold sV at w2
  generalize Bn sh 10000=N at *
  generalize Bo sh 10000=D at *
  have e4:IntKind.i64.wrap sh=sh:=wrap64 (by omega) (by omega)
  have j1:k≤9223372036854775806:=by omega
  have j2:(k+1)*104≤140737488355328:=by omega
  ((try simp at w1 w2);(try simp -implicitDefEqProofs [h,hxc,hxc',Sou.c,e3,e4,maxLen,l1,l2,j1,j2]);repeat' first|(with_reducible apply A0<;>first|(simp only [eras,era,A1];first|with_reducible assumption)|(simp -implicitDefEqProofs [h,hxc,hxc',Sou.c,e3,e4,maxLen,l1,l2,j1,j2])))
  refine⟨k+1,by omega,by omega,by simp,?_,?_,by simp⟩
  ·rw [←List.map_map,r1];exact leA.refl _
  ·rw [←List.map_map,r2];exact leA.refl _
 ·have hke:k=l.length:=by omega
  subst hke
  have t1:((l.map Sou.src).map Src.c).take l.length=(l.map Sou.src).map Src.c:=List.take_of_length_le (by simp)
  have t2:((l.map Sou.src).map Src.q).take l.length=(l.map Sou.src).map Src.q:=List.take_of_length_le (by simp)
  rw [t1,t2]
  (try simp -implicitDefEqProofs)
def awL:List Src:=[⟨0,true,Bn 1 2,Bo 1 2,[⟨0,0,0,4000,-1,0,-500⟩]⟩]
def awC:List Code:=[⟨[],false,[⟨3,4000,4000⟩,⟨5,0,0⟩,⟨7,0,0⟩,⟨25,4000,0⟩,⟨26,3000,0⟩]⟩]
theorem A2d:Tz awC awL=([⟨10,0,-1,0,[⟨3000,-250⟩,⟨4000,250⟩]⟩],0):=by decide +kernel
theorem Uc:A3 Tryz.prog 7 [] (vB true):=by
 have h1:=W9 (n:=1) (d:=2) (by omega) (by omega) (by decide) (by decide)
 have h2:=A27 awC awL (by decide) (by decide) (by decide) (by decide +kernel)
 rw [A2d] at h2
 unfold awC awL Src.l psV at h2
 simp only [Src.c,rC,List.map_cons,List.map_nil,Code.c,Ins.c,Item.c,Posting.c,Part.c,List.cons_append,List.nil_append] at h2
 unfold rV at h1
 generalize Bn 1 2=N at *
 generalize Bo 1 2=D at *
 (refine A3.of_code mix Tryz.call7 k_7 (by simp) (fun hB=>?_);(try simp at hB);(try simp -implicitDefEqProofs))
 ((try simp at h1 h2);(try simp -implicitDefEqProofs);repeat' first|(with_reducible apply A0<;>first|(simp only [eras,era,A1];first|with_reducible assumption)|(simp -implicitDefEqProofs)))
end Go.Proofs.YtmlpmdccfmmpoaaGreatDoor
