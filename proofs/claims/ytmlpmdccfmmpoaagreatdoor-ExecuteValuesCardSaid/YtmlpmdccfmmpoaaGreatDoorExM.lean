/- Chapter 35: the machine reads, scales and posts. -/
import Derived.Test.YtmlpmdccfmmpoaaGreatDoorIn5
import Derived.Test.YtmlpmdccfmmpoaaGreatDoorMea
import Derived.Test.YtmlpmdccfmmpoaaGreatDoorIn2
import Derived.Test.YtmlpmdccfmmpoaaGreatDoorMaps
set_option linter.unusedSimpArgs false
set_option linter.unusedVariables false
set_option maxHeartbeats 2000000
set_option maxRecDepth 8000
namespace Go.Proofs.YtmlpmdccfmmpoaaGreatDoor
open E
def nB (z:Int):Bool:=decide (z<0)
def pE (z:Int):List (List T):=lE .u32 (A5 b9 z.natAbs)
theorem iV9 (z:Int):iV b9 .u32 z=.agg [.t (.bool (nB z)),.t (.sl (pE z))]:=rfl
def rC (n d:Int):List T:=[.bool (nB n),.sl (pE n),.bool (nB d),.sl (pE d)]
def rV (n d:Int):V:=.agg [.t (.bool (nB n)),.t (.sl (pE n)),.t (.bool (nB d)),.t (.sl (pE d))]
def Sm (z:Int):Prop:=z.natAbs<1000000000000000000000000000
theorem Sm.len {z:Int} (h:Sm z):(A5 b9 z.natAbs).length≤1000:=by
 have:=C4 (B:=b9) (n:=z.natAbs) (k:=3) Bp (by unfold Sm at h;unfold b9;omega)
 omega
theorem A0i {n:Int} {d:Nat} (hn:Sm n) (hd:0<d) (hdb:d<b9):A3 Tryz.prog 110 [rV n d] (rV (Bn n d) (Bo n d)):=by
 have hdn:((d:Int)).natAbs=d:=Int.natAbs_natCast d
 have hg:=A40 n d hn.len (by rw [hdn];exact hdb)
 rw [hdn] at hg
 have hg0:=Hb (a:=n) hd
 have hgd:Nat.gcd n.natAbs d≤d:=Nat.gcd_le_right _ hd
 have hs:=Gp (d:Int)
 have s1:sgn (d:Int)=1:=by unfold sgn;rw [if_neg (by omega),if_neg (by omega)]
 rw [s1] at hs
 have q1:=K0 n (Nat.gcd n.natAbs d:Nat) hn.len (by omega) (by rw [Int.natAbs_natCast];omega)
 have q2:=K0 d (Nat.gcd n.natAbs d:Nat) (Sm.len (by unfold Sm;unfold b9 at hdb;omega)) (by omega) (by rw [Int.natAbs_natCast];omega)
 have e2:(d:Int).tdiv (Nat.gcd n.natAbs d:Nat)=(Bo n d:Nat):=rfl
 have e1:n.tdiv (Nat.gcd n.natAbs d:Nat)=Bn n d:=rfl
 rw [e1] at q1
 rw [e2] at q2
 generalize Bn n d=a at *
 generalize Bo n d=b at *
 generalize Nat.gcd n.natAbs d=g at *
 generalize n.tmod (g:Nat)=m1 at *
 generalize (d:Int).tmod (g:Nat)=m2 at *
 simp only [iV9] at *
 unfold rV
 (refine A3.of_code mix Tryz.call110 k_110 (by simp) (fun hB=>?_);(try simp at hB);(try simp -implicitDefEqProofs))
 ((try simp at hg hs q1 q2);(try simp -implicitDefEqProofs);repeat' first|(with_reducible apply A0<;>first|(simp only [eras,era,A1];first|with_reducible assumption)|(simp -implicitDefEqProofs)))
theorem A46 {n:Int} {d:Nat} (hn:Sm n) (hd:0<d) (hdb:d<b9):A3 Tryz.prog 58 [iV b9 .u32 n,iV b9 .u32 d] (.tup [rV (Bn n d) (Bo n d),vI 0]):=by
 have hr:=A0i hn hd hdb
 have hs:=Gp (d:Int)
 have s1:sgn (d:Int)=1:=by unfold sgn;rw [if_neg (by omega),if_neg (by omega)]
 rw [s1] at hs
 generalize Bn n d=a at *
 generalize Bo n d=b at *
 simp only [iV9] at *
 unfold rV at *
 (refine A3.of_code mix Tryz.call58 k_58 (by simp) (fun hB=>?_);(try simp at hB);(try simp -implicitDefEqProofs))
 ((try simp at hr hs);(try simp -implicitDefEqProofs);repeat' first|(with_reducible apply A0<;>first|(simp only [eras,era,A1];first|with_reducible assumption)|(simp -implicitDefEqProofs)))
theorem W9 {n:Int} {d:Nat} (h1 : -9223372036854775808≤n) (h2:n≤9223372036854775807) (hd:0<d) (hdb:d<b9):A3 Tryz.prog 23 [vI n,vI d] (.tup [rV (Bn n d) (Bo n d),vI 0]):=by
 have hr:=A46 (n:=n) (by unfold Sm;omega) hd hdb
 have o1:=Vw h1 h2
 have o2:=Vw (n:=(d:Int)) (by omega) (by unfold b9 at hdb;omega)
 generalize Bn n d=a at *
 generalize Bo n d=b at *
 simp only [iV9] at *
 unfold rV at *
 (refine A3.of_code mix Tryz.call23 k_23 (by simp) (fun hB=>?_);(try simp at hB);(try simp -implicitDefEqProofs))
 ((try simp at o1 o2 hr);(try simp -implicitDefEqProofs);repeat' first|(with_reducible apply A0<;>first|(simp only [eras,era,A1];first|with_reducible assumption)|(simp -implicitDefEqProofs)))
theorem Mr (n:Int) {d:Nat} (hd:0<d):A3 Tryz.prog 179 [rV n d] (.tup [iV b9 .u32 n,iV b9 .u32 d]):=by
 have hs:=Gp (d:Int)
 have s1:sgn (d:Int)=1:=by unfold sgn;rw [if_neg (by omega),if_neg (by omega)]
 rw [s1] at hs
 simp only [iV9] at *
 unfold rV at *
 (refine A3.of_code mix Tryz.call179 k_179 (by simp) (fun hB=>?_);(try simp at hB);(try simp -implicitDefEqProofs))
 ((try simp at hs);(try simp -implicitDefEqProofs);repeat' first|(with_reducible apply A0<;>first|(simp only [eras,era,A1];first|with_reducible assumption)|(simp -implicitDefEqProofs)))
theorem A1w {a c:Int} {b d:Nat} (hac:Sm (a*c)) (ha:Sm a) (hc:Sm c) (hb:0<b) (hd:0<d) (hbd:b*d<b9):A3 Tryz.prog 153 [rV a b,rV c d] (rV (Bn (a*c) (b*d)) (Bo (a*c) (b*d))):=by
 have hbd0:0<b*d:=Nat.mul_pos hb hd
 have hb':b<b9:=Nat.lt_of_le_of_lt (Nat.le_mul_of_pos_right _ hd) hbd
 have hd':d<b9:=Nat.lt_of_le_of_lt (Nat.le_mul_of_pos_left _ hb) hbd
 have hr:=A0i hac hbd0 hbd
 have p1:=Mr a hb
 have p2:=Mr c hd
 have m1:=S4 a c ha.len hc.len
 have m2:=S4 b d (Sm.len (by unfold Sm;unfold b9 at hb';omega)) (Sm.len (by unfold Sm;unfold b9 at hd';omega))
 rw [←Int.natCast_mul] at m2
 generalize b*d=e at *
 generalize a*c=f at *
 generalize Bn f e=x at *
 generalize Bo f e=y at *
 simp only [iV9] at *
 unfold rV at *
 (refine A3.of_code mix Tryz.call153 k_153 (by simp) (fun hB=>?_);(try simp at hB);(try simp -implicitDefEqProofs))
 ((try simp at p1 p2 m1 m2 hr);(try simp -implicitDefEqProofs);repeat' first|(with_reducible apply A0<;>first|(simp only [eras,era,A1];first|with_reducible assumption)|(simp -implicitDefEqProofs)))
theorem Z7 {a:Int} {b:Nat} (ha':a.natAbs≤1000000000000000000) (hb:0<b) (hbb:2*b<b9):A3 Tryz.prog 152 [rV a b] (iV b9 .u32 (rnd a b)):=by
 have ha:Sm (2*a):=by unfold Sm;omega
 have p1:=Mr a hb
 have s1:=Gp a
 have ha1:Sm a:=by unfold Sm at *;omega
 have hb1:Sm (b:Int):=by unfold Sm;unfold b9 at hbb;omega
 have n1:=A3z (b:Int)
 have o2:=Vw (n:=2) (by omega) (by omega)
 have m1:=S4 2 a (Sm.len (by unfold Sm;omega)) ha1.len
 have m2:=S4 2 b (Sm.len (by unfold Sm;omega)) hb1.len
 have e2:(2:Int)*(b:Int)=((2*b:Nat):Int):=by omega
 rw [e2] at m2
 have key : ∀h:Int,h=(if a<0 then -(b:Int) else b)→A3 Tryz.prog 180 [iV b9 .u32 (2*a),iV b9 .u32 h] (iV b9 .u32 (2*a+h)):=fun h hh=>by
  refine A1u _ _ (Sm.len (by exact ha)) (Sm.len (by rw [hh];unfold Sm at *;split<;>omega)) ?_
  rw [hh];by_cases h:a<0
  ·rw [if_pos h];simp [h];constructor<;>intro<;>omega
  ·rw [if_neg h];simp [h];omega
 have sg:Sm (2*a+(if a<0 then -(b:Int) else b)):=by unfold Sm at *;unfold b9 at hbb;split<;>omega
 have q:=K0 (2*a+(if a<0 then -(b:Int) else b)) ((2*b:Nat):Int) sg.len (by omega) (by rw [Int.natAbs_natCast];exact hbb)
 have eq:(2*a+(if a<0 then -(b:Int) else b)).tdiv ((2*b:Nat):Int)=rnd a b:=by rw [←Vt,←e2]
 rw [eq] at q
 have k1:=key _ rfl
 generalize hhv:(if a<0 then -(b:Int) else b)=hv at *
 generalize rnd a b=R at *
 generalize (2*a+hv).tmod ((2*b:Nat):Int)=m at *
 generalize 2*a+hv=u at *
 generalize 2*a=w at *
 generalize ((2*b:Nat):Int)=v at *
 by_cases h:a<0
 ·have s2:sgn a<0:=by unfold sgn;rw [if_pos h];omega
  rw [if_pos h] at hhv
  rw [hhv] at n1
  simp only [iV9] at *
  unfold rV at *
  (refine A3.of_code mix Tryz.call152 k_152 (by simp) (fun hB=>?_);(try simp at hB);(try simp -implicitDefEqProofs))
  ((try simp at p1 s1 n1 o2 m1 k1 m2 q);(try simp -implicitDefEqProofs [s2]);repeat' first|(with_reducible apply A0<;>first|(simp only [eras,era,A1];first|with_reducible assumption)|(simp -implicitDefEqProofs [s2])))
  repeat' with_reducible apply And.intro
  all_goals (try simp -implicitDefEqProofs)
 ·have s2 : ¬sgn a<0:=by unfold sgn;rw [if_neg h];split<;>omega
  rw [if_neg h] at hhv
  subst hhv
  simp only [iV9] at *
  unfold rV at *
  (refine A3.of_code mix Tryz.call152 k_152 (by simp) (fun hB=>?_);(try simp at hB);(try simp -implicitDefEqProofs))
  ((try simp at p1 s1 n1 o2 m1 k1 m2 q);(try simp -implicitDefEqProofs [s2]);repeat' first|(with_reducible apply A0<;>first|(simp only [eras,era,A1];first|with_reducible assumption)|(simp -implicitDefEqProofs [s2])))
  repeat' with_reducible apply And.intro
  all_goals (try simp -implicitDefEqProofs)
def D3 (n p:Int) (q:Nat):Int×Int:=if Ag n=true then if Ag (rnd (n*p) q)=true then (rnd (n*p) q,0) else (0,2) else (0,1)
theorem Wa (n:Int):A3 Tryz.prog 150 [vI n] (vB (Ag n)):=by
 unfold Ag
 (refine A3.of_code mix Tryz.call150 k_150 (by simp) (fun hB=>?_);(try simp at hB);(try simp -implicitDefEqProofs))
 ((try simp -implicitDefEqProofs);repeat' first|((with_reducible first|apply Ad|apply Ae|apply A8)<;>(intro hc;have hc':=hc;(try simp at hc');simp -implicitDefEqProofs [hc,hc'])))
theorem S5 {n:Int} (h:Ag n=true):n.natAbs≤1000000000000:=by
 unfold Ag at h;simp at h;omega
theorem Z8 (n p:Int) (q:Nat) (hp:p.natAbs≤100000) (hq:0<q) (hqb:q≤100000):A3 Tryz.prog 115 [vI n,rV p q] (.tup [vI (D3 n p q).1,vI (D3 n p q).2]):=by
 have a1:=Wa n
 unfold D3
 cases hn:Ag n
 ·rw [hn] at a1
  unfold rV
  (refine A3.of_code mix Tryz.call115 k_115 (by simp) (fun hB=>?_);(try simp at hB);(try simp -implicitDefEqProofs))
  ((try simp at a1);(try simp -implicitDefEqProofs);repeat' first|(with_reducible apply A0<;>first|(simp only [eras,era,A1];first|with_reducible assumption)|(simp -implicitDefEqProofs)))
 ·rw [hn] at a1
  have hnb:=S5 hn
  have hmul:(n*p).natAbs≤100000000000000000:=by
   rw [Int.natAbs_mul]
   exact Nat.le_trans (Nat.mul_le_mul hnb hp) (by decide)
  have o:=W9 (n:=n) (d:=1) (by omega) (by omega) (by decide) (by decide)
  have e1:Bn n 1=n:=by unfold Bn;rw [Nat.gcd_one_right];simp
  have e2:Bo n 1=1:=by unfold Bo;simp
  rw [e1,e2] at o
  have m:=A1w (a:=n) (c:=p) (b:=1) (d:=q) (by unfold Sm;omega) (by unfold Sm;omega) (by unfold Sm;omega) (by decide) hq (by unfold b9;omega)
  rw [Nat.one_mul] at m
  have hl1:=Mi (a:=n*p) hq
  have hl2:=Qt (a:=n*p) (q:=q)
  have hl3:=Mh (a:=n*p) hq
  have r:=Z7 (a:=Bn (n*p) q) (b:=Bo (n*p) q) (by omega) hl3 (by unfold b9;omega)
  rw [Rv hq] at r
  have hrb:=Rw (a:=n*p) hq
  have sm:=Z2 (rnd (n*p) q) (by omega) (by omega)
  have a2:=Wa (rnd (n*p) q)
  generalize Bn (n*p) q=x at *
  generalize Bo (n*p) q=y at *
  generalize rnd (n*p) q=z at *
  simp only [iV9] at *
  unfold rV at *
  cases hz:Ag z
  ·rw [hz] at a2
   (refine A3.of_code mix Tryz.call115 k_115 (by simp) (fun hB=>?_);(try simp at hB);(try simp -implicitDefEqProofs))
   ((try simp at a1 a2 o m r sm);(try simp -implicitDefEqProofs);repeat' first|(with_reducible apply A0<;>first|(simp only [eras,era,A1];first|with_reducible assumption)|(simp -implicitDefEqProofs)))
  ·rw [hz] at a2
   (refine A3.of_code mix Tryz.call115 k_115 (by simp) (fun hB=>?_);(try simp at hB);(try simp -implicitDefEqProofs))
   ((try simp at a1 a2 o m r sm);(try simp -implicitDefEqProofs);repeat' first|(with_reducible apply A0<;>first|(simp only [eras,era,A1];first|with_reducible assumption)|(simp -implicitDefEqProofs)))
@[ext] structure Src where
 ent:Int
 full:Bool
 num:Int
 den:Nat
 items:List Item
def An (l:List Item) (f t:Int) (any:Bool) (p:Int):Int:=(l.map fun x=>if f≤x.acc∧x.acc≤t∧(any=true∨x.par=p) then x.amt else 0).sum
def Dg (n:Int) (s:Src):Int×Bool:=if Ag n=true∧Ag (rnd (n*s.num) s.den)=true then (rnd (n*s.num) s.den,true) else (0,false)
def Hx (k:Int):List Int→List Int
 | []=>[k]
 | x::l=>if k<x then k::x::l else if k=x then x::l else x::Hx k l
def B2 (ps:List Part):List Int:=ps.foldr (fun p l=>Hx p.acc l) []
def B6 (ps:List Part) (k:Int):Int:=(ps.map fun p=>if p.acc=k then p.amt else 0).sum
def Gq (ps:List Part):Option (List Part):=
 if (B2 ps).all (fun k=>Ag (B6 ps k))=true then some (((B2 ps).filter fun k=>B6 ps k != 0).map fun k=>⟨k,B6 ps k⟩) else none
def Bv (s:Src) (oth:Int) (x:Ins) (st loc:List Int):Int×Bool:=
 if x.op=1 then (x.a,true)
 else if x.op=2 then (loc.getD x.a.toNat 0,true)
 else if x.op=3 then (An s.items x.a x.b true 0,Ag (An s.items x.a x.b true 0))
 else if x.op=4 then (An s.items x.a x.b false oth,Ag (An s.items x.a x.b false oth))
 else if x.op=7 then Dg (st.headD 0) s
 else if tk x.op=1 then opC x.op x.a (st.headD 0) 0
 else opC x.op 0 (st.getD 1 0) (st.headD 0)
def B8 (s:Src) (oth:Int):List Ins→List Int→List Int→List Part→Option (List Part)
 | [],_,_,_=>some []
 | x::l,st,loc,ps=>
  if x.op=23 then B8 s oth l st.tail (loc++[st.headD 0]) ps
  else if x.op=24 then if st.headD 0=0 then some [] else B8 s oth l st.tail loc ps
  else if x.op=25 then B8 s oth l st.tail loc (ps++[⟨x.a,st.headD 0⟩])
  else if x.op=26 then Gq (ps++[⟨x.a,-(ps.map Part.amt).sum⟩])
  else if (Bv s oth x st loc).2=true then B8 s oth l ((Bv s oth x st loc).1::st.drop (tk x.op).toNat) loc ps
  else none
def Li (s:Src) (oth rule:Int) (ps:List Part):Posting:=if ps=[] then ⟨0,0,0,0,[]⟩ else ⟨10,s.ent,oth,rule,ps⟩
def Ij (c:Code) (s:Src) (oth rule:Int):Option Posting:=(B8 s oth c.ins [] [] []).map (Li s oth rule)
def Dh (l:List Src):Bool:=(l.all fun s=>decide (0≤s.ent)&&decide (s.ent<12)&&s.items.all fun x=>Ag x.amt)&&(List.range l.length).all fun i=>i==0||decide ((l.getD (i-1) ⟨0,false,0,0,[]⟩).ent<(l.getD i ⟨0,false,0,0,[]⟩).ent)
def Ms (l:List Src) (pair:Bool) (s:Src):List Int:=if pair=true then (l.filter fun o=>o.full&&o.ent != s.ent).map Src.ent else [-1]
def Mt (l:List Src) (pair:Bool):List (Src×Int):=(l.filter Src.full).flatMap fun s=>(Ms l pair s).map fun o=>(s,o)
def Cv:List (Option Posting)→Option (List Posting)
 | []=>some []
 | none::_=>none
 | some p::l=>(Cv l).map fun ps=>if p.parts=[] then ps else p::ps
def A47 (l:List Src) (rs:List (Bool×(Src→Int→Option Posting))):List (Option Posting):=rs.flatMap fun r=>(Mt l r.1).map fun x=>r.2 x.1 x.2
def Qw (c:List Code) (l:List Src):Option (List Posting):=Cv (A47 l (c.zipIdx.map fun x=>(x.1.pair,fun s o=>Ij x.1 s o x.2)))
theorem K3 {k x:Int} : ∀{l:List Int},x∈Hx k l↔x=k∨x∈l
 | []=>by simp [Hx]
 | y::l=>by
  unfold Hx
  split
  ·simp
  ·split
   ·rename_i h;subst h;simp
   ·simp [K3 (l:=l)];constructor
    ·rintro (h|h|h)<;>simp [h]
    ·rintro (h|h|h)<;>simp [h]
theorem Ik {k:Int} : ∀{l:List Int},l.Pairwise (· < ·)→(Hx k l).Pairwise (· < ·)
 | [],_=>by simp [Hx]
 | y::l,h=>by
  have h1:=List.pairwise_cons.1 h
  unfold Hx
  split
  ·rename_i hk
   refine List.pairwise_cons.2 ⟨fun z hz=>?_,h⟩
   rcases List.mem_cons.1 hz with rfl|hz
   ·exact hk
   ·exact Int.lt_trans hk (h1.1 z hz)
  ·split
   ·exact h
   ·refine List.pairwise_cons.2 ⟨fun z hz=>?_,Ik h1.2⟩
    rcases K3.1 hz with rfl|hz
    ·omega
    ·exact h1.1 z hz
theorem Ga : ∀(ps:List Part),(B2 ps).Pairwise (· < ·)
 | []=>List.Pairwise.nil
 | _::l=>Ik (Ga l)
theorem Dr {k:Int} : ∀{ps:List Part},k∈B2 ps↔∃p∈ps,p.acc=k
 | []=>by simp [B2]
 | q::l=>by
  have ih:=Dr (k:=k) (ps:=l)
  have e:B2 (q::l)=Hx q.acc (B2 l):=rfl
  rw [e,K3,ih]
  constructor
  ·rintro (h|⟨p,h1,h2⟩)
   ·exact⟨q,by simp,h.symm⟩
   ·exact⟨p,by simp [h1],h2⟩
  ·rintro ⟨p,h1,h2⟩
   rcases List.mem_cons.1 h1 with rfl|h1
   ·exact .inl h2.symm
   ·exact .inr ⟨p,h1,h2⟩
theorem Fl : ∀{a b:List Int},a.Pairwise (· < ·)→b.Pairwise (· < ·)→(∀x,x∈a↔x∈b)→a=b
 | [],[],_,_,_=>rfl
 | [],y::b,_,_,h=>by have:=(h y).2 (by simp);simp at this
 | x::a,[],_,_,h=>by have:=(h x).1 (by simp);simp at this
 | x::a,y::b,ha,hb,h=>by
  have h1:=List.pairwise_cons.1 ha
  have h2:=List.pairwise_cons.1 hb
  have e:x=y:=by
   rcases List.mem_cons.1 ((h x).1 (by simp)) with e|e
   ·exact e
   ·rcases List.mem_cons.1 ((h y).2 (by simp)) with e'|e'
    ·exact e'.symm
    ·have:=h1.1 y e';have:=h2.1 x e;omega
  subst e
  congr 1
  refine Fl h1.2 h2.2 fun z=>⟨fun hz=>?_,fun hz=>?_⟩
  ·rcases List.mem_cons.1 ((h z).1 (by simp [hz])) with e|e
   ·subst e;exact absurd (h1.1 z hz) (by omega)
   ·exact e
  ·rcases List.mem_cons.1 ((h z).2 (by simp [hz])) with e|e
   ·subst e;exact absurd (h2.1 z hz) (by omega)
   ·exact e
theorem Hh {α:Type} {f:α→Int} : ∀{l:List α},(∀x∈l,f x=0)→(l.map f).sum=0
 | [],_=>rfl
 | x::l,h=>by
  have:=Hh (f:=f) (l:=l) fun y hy=>h y (by simp [hy])
  simp [h x (by simp),this]
theorem K4 (p:Part) (ps:List Part) (k:Int):B6 (p::ps) k=(if p.acc=k then p.amt else 0)+B6 ps k:=rfl
theorem K5 {ps:List Part} {k:Int} (h:k∉B2 ps):B6 ps k=0:=Hh fun p hp=>by
 rw [if_neg fun e=>h (Dr.2 ⟨p,hp,e⟩)]
structure PartsOk (l:List Part):Prop where
 srt:(l.map Part.acc).Pairwise (· < ·)
 nz : ∀p∈l,p.amt≠0
 am : ∀p∈l,Ag p.amt=true
 sum:(l.map Part.amt).sum=0
 two:l≠[]→2≤l.length
def Src.c (s:Src):List T:=[.int .i64 s.ent,.bool s.full]++rC s.num s.den++[.sl (s.items.map Item.c)]
def Src.v (s:Src):V:=.agg (s.c.map .t)
def Src.l (l:List Src):V:=.t (.sl (l.map Src.c))
def mC (s:Src) (oth:Int) (lv:V) (mb:Nat) (sum:Int):List V:=[vI s.ent,vB s.full,.t (.bool (nB s.num)),.t (.sl (pE s.num)),.t (.bool (nB s.den)),.t (.sl (pE s.den)),.t (.sl (s.items.map Item.c)),vI oth,lv,.mp mb,vI sum]
structure Src.Ok (s:Src):Prop where
 num:s.num.natAbs≤100000
 den0:0<s.den
 den:s.den≤100000
 len:s.items.length≤1000
 amt : ∀x∈s.items,Ag x.amt=true
theorem Hi {n:Int} (h:Ag n=true) : -1000000000000≤n∧n≤1000000000000:=by unfold Ag at h;simpa using h
theorem K6 {f t p:Int} {any:Bool} : ∀{l:List Item},(∀x∈l,Ag x.amt=true)→-(1000000000000*(l.length:Int))≤An l f t any p∧An l f t any p≤1000000000000*(l.length:Int)
 | [],_=>by simp [An]
 | x::l,h=>by
  have ih:=K6 (f:=f) (t:=t) (p:=p) (any:=any) (l:=l) fun y hy=>h y (by simp [hy])
  have h1:=Hi (h x (by simp))
  have e:An (x::l) f t any p=(if f≤x.acc∧x.acc≤t∧(any=true∨x.par=p) then x.amt else 0)+An l f t any p:=rfl
  rw [e,List.length_cons]
  push_cast
  split<;>omega
theorem K7 {l:List Item} {k:Nat} {x:Item} (h:l[k]?=some x) (f t p:Int) (any:Bool):An (l.take (k+1)) f t any p=An (l.take k) f t any p+(if f≤x.acc∧x.acc≤t∧(any=true∨x.par=p) then x.amt else 0):=by
 rw [Ah h]
 unfold An
 rw [List.map_append,List.sum_append]
 simp
theorem Qx (n:Int):A3 Tryz.prog 67 [vI n] (vB (Ag n)):=by
 unfold Ag
 (refine A3.of_code mix Tryz.call67 k_67 (by simp) (fun hB=>?_);(try simp at hB);(try simp -implicitDefEqProofs))
 ((try simp -implicitDefEqProofs);repeat' first|((with_reducible first|apply Ad|apply Ae|apply A8)<;>(intro hc;have hc':=hc;(try simp at hc');simp -implicitDefEqProofs [hc,hc'])))
theorem Aa.ext {n m:Nat} : ∀{A B:List Bx} (l:List Bx),Aa n m A B→Aa n m (A++l) B
 | [],[],l,_=>by cases l<;>trivial
 | a::A,[],l,_=>trivial
 | [],b::B,l,h=>h.elim
 | a::A,b::B,l,h=>⟨h.1,Aa.ext (A:=A) (B:=B) l h.2⟩
theorem Aa.set {n m:Nat} {x y:Bx} (hxy:leB n m x y) : ∀{A B:List Bx} (i:Nat),Aa n m A B→Aa n m (A.set i x) (B.set i y)
 | [],[],i,_=>trivial
 | a::A,[],0,_=>trivial
 | a::A,[],i+1,_=>trivial
 | [],b::B,i,h=>h.elim
 | a::A,b::B,0,h=>⟨hxy,h.2⟩
 | a::A,b::B,i+1,h=>⟨h.1,Aa.set hxy (A:=A) (B:=B) i h.2⟩
theorem A1x {l:List V} {a b:Nat} (h : ∀v∈l,∃x,v=.t x):okNs a b l=true:=by
 induction l with
 | nil=>rfl
 | cons v l ih=>
  obtain⟨x,rfl⟩:=h v (by simp)
  simp only [okNs,okN,ih fun w hw=>h w (by simp [hw]),Bool.and_self]
theorem E7 {n m:Nat} (es:List (Int×Int)):leB n m (.mp (mI vI es)) (.mp (mI vI es)):=
 ⟨rfl,A1x fun v hv=>by simp only [mI,List.map_map,List.mem_map] at hv;obtain⟨p,_,rfl⟩:=hv;exact⟨_,rfl⟩,A1x fun v hv=>by simp only [mI,List.map_map,List.mem_map] at hv;obtain⟨p,_,rfl⟩:=hv;exact⟨_,rfl⟩⟩
theorem Mu (b:Nat) (f t p:Int) (S:St) (hS:OkS S) (s:Src) (oth:Int) (lv:V) (mb:Nat) (sum:Int) (hs:s.Ok) (hb:S.boxes[b]?=some (.cells (mC s oth lv mb sum))) :
  FnS Tryz.prog 71 [.ptr b 0,vI f,vI t,vI p] S (.tup [vI (An s.items f t (decide (p<0)) p),vB (Ag (An s.items f t (decide (p<0)) p))]) S:=by
 obtain⟨L,tk⟩:=S
 simp only [] at hb
 have hbl:=A7 hb
 have hb' : ∀l:List Bx,(L++l)[b]?=some (.cells (mC s oth lv mb sum)):=fun l=>by rw [List.getElem?_append_left hbl];exact hb
 have hS':=hS
 simp [OkS] at hS'
 obtain⟨q1,q2⟩:Aa L.length tk.length L L∧Ep tk tk:=hS
 have hlen:=hs.len
 unfold mC at hb hb'
 obtain⟨any,hany⟩ : ∃any,any=decide (p<0):=⟨_,rfl⟩
 rw [←hany]
 (refine FnS.of_code mix Tryz.call71 k_71 (by simp) (fun hB=>?_);(try simp at hB);(try simp -implicitDefEqProofs))
 (try simp -implicitDefEqProofs [hb,hb'])
 refine A6 (X:=Nat) (fun k=>k≤s.items.length) (fun k=>[(1,vI f),(2,vI t),(3,vI p),(10,vI (An (s.items.take k) f t any p)),(17,.t (.sl (s.items.map Item.c))),(18,vI s.items.length),(19,vI k)]) (fun _=>⟨L,tk⟩) (fun k=>s.items.length-k) 0 (by omega) ?hs ?_
 case hs=>simp [An,hS']
 rintro k hk hbd
 clear hbd
 have e3:IntKind.i64.wrap ((k:Int)+1)=(k:Int)+1:=wrap64 (by omega) (by omega)
 rcases Nat.lt_or_ge k s.items.length with h|h
 ·obtain⟨x,hx⟩:=Ab h
  have hnx:=K7 hx f t p any
  have hbd:=K6 (f:=f) (t:=t) (p:=p) (any:=any) (l:=s.items.take (k+1)) (fun y hy=>hs.amt y (List.mem_of_mem_take hy))
  have hle:(s.items.take (k+1)).length≤1000:=by rw [List.length_take];omega
  generalize An (s.items.take k) f t any p=n at *
  generalize hn':An (s.items.take (k+1)) f t any p=n' at *
  have hxc:(s.items.map Item.c)[k]?=some x.c:=by simp [hx]
  have hxc' : ∀h,(s.items.map Item.c)[k]'h=x.c:=fun h=>by rw [List.getElem?_eq_getElem h] at hxc;exact Option.some.inj hxc
  obtain⟨i1,i2,i3,i4,i5,i6,i7⟩:=x
  simp only [] at hnx
  by_cases hc:f≤i4∧i4≤t∧(any=true∨i5=p)
  ·rw [if_pos hc] at hnx
   obtain⟨c1,c2,c3⟩:=hc
   have w1:IntKind.i64.wrap (n+i7)=n':=by rw [←hnx];exact wrap64 (by omega) (by omega)
   by_cases c4:p<0
   ·(try simp -implicitDefEqProofs [h,hxc,hxc',Item.c,c1,c2,c4,w1,e3,hbl])
    exact⟨k+1,by omega,by omega,by simp [hn',hS'];exact Aa.ext _ q1⟩
   ·have c5:i5=p:=by rcases c3 with h|h;exact absurd (by rw [hany] at h;simpa using h) c4;exact h
    subst c5
    (try simp -implicitDefEqProofs [h,hxc,hxc',Item.c,c1,c2,c4,w1,e3,hbl])
    exact⟨k+1,by omega,by omega,by simp [hn',hS'];exact Aa.ext _ q1⟩
  ·rw [if_neg hc,Int.add_zero] at hnx
   by_cases c1:f≤i4
   ·by_cases c2:i4≤t
    ·have c3 : ¬(p<0)∧¬i5=p:=by
      constructor
      ·intro h;exact hc ⟨c1,c2,.inl (by rw [hany];simpa using h)⟩
      ·intro h;exact hc ⟨c1,c2,.inr h⟩
     have c5:(i5==p)=false:=by simpa using c3.2
     (try simp -implicitDefEqProofs [h,hxc,hxc',Item.c,c1,c2,c3.1,c5,e3,hbl])
     exact⟨k+1,by omega,by omega,by simp [hn',hS',hnx];exact Aa.ext _ q1⟩
    ·(try simp -implicitDefEqProofs [h,hxc,hxc',Item.c,c1,c2,e3,hbl])
     exact⟨k+1,by omega,by omega,by simp [hn',hS',hnx];exact Aa.ext _ q1⟩
   ·(try simp -implicitDefEqProofs [h,hxc,hxc',Item.c,c1,e3,hbl])
    exact⟨k+1,by omega,by omega,by simp [hn',hS',hnx];exact Aa.ext _ q1⟩
 ·have hk':k=s.items.length:=by omega
  subst hk'
  rw [List.take_of_length_le (Nat.le_refl _)]
  have ha:=Qx (An s.items f t any p)
  ((try simp at ha);(try simp -implicitDefEqProofs [hS']);repeat' first|(with_reducible apply A0<;>first|(simp only [eras,era,A1];first|with_reducible assumption)|(simp -implicitDefEqProofs [hS'])))
theorem Ou (n:Int) (s:Src):Dg n s=((D3 n s.num s.den).1,(D3 n s.num s.den).2==0):=by
 unfold Dg D3
 cases h1:Ag n<;>simp
 cases h2:Ag (rnd (n*s.num) s.den)<;>simp
theorem S6 (b:Nat) (n:Int) (S:St) (hS:OkS S) (s:Src) (oth:Int) (lv:V) (mb:Nat) (sum:Int) (hs:s.Ok) (hb:S.boxes[b]?=some (.cells (mC s oth lv mb sum))) :
  FnS Tryz.prog 72 [.ptr b 0,vI n] S (.tup [vI (Dg n s).1,vB (Dg n s).2]) S:=by
 have hsc:=Z8 n s.num s.den hs.num hs.den0 hs.den
 rw [Ou]
 generalize D3 n s.num s.den=r at *
 have hS':=hS
 simp [OkS] at hS'
 unfold mC at hb
 unfold rV at hsc
 (refine FnS.of_code mix Tryz.call72 k_72 (by simp) (fun hB=>?_);(try simp at hB);(try simp -implicitDefEqProofs))
 ((try simp at hsc);(try simp -implicitDefEqProofs [hb,hS']);repeat' first|(with_reducible apply A0<;>first|(simp only [eras,era,A1];first|with_reducible assumption)|(simp -implicitDefEqProofs [hb,hS'])))
theorem Wb (b mb:Nat) (acc n:Int) (S:St) (hS:OkS S) (s:Src) (oth:Int) (lv:V) (sum:Int) (es:List (Int×Int)) (hb:S.boxes[b]?=some (.cells (mC s oth lv mb sum))) (hmb:S.boxes[mb]?=some (.mp (mI vI es))) (hes:es.length≤10000)
  (hlv:okN S.boxes.length S.toks.length lv=true)
  (h1:IntKind.i64.wrap ((Bg es acc).getD 0+n)=(Bg es acc).getD 0+n) (h2:IntKind.i64.wrap (sum+n)=sum+n) :
  FnS Tryz.prog 86 [.ptr b 0,vI acc,vI n] S (.tup []) { S with boxes:=(S.boxes.set mb (.mp (mI vI (Cc es acc ((Bg es acc).getD 0+n))))).set b (.cells (mC s oth lv mb (sum+n))) }:=by
 obtain⟨L,tk⟩:=S
 simp only [] at hb hmb hlv
 have hne:b≠mb:=fun e=>by rw [e,hmb] at hb;cases hb
 have hbl:=A7 hb
 have hml:=A7 hmb
 have hfm:=Md vI acc es
 have hsm:=Vk vI acc ((Bg es acc).getD 0+n) es
 have hal:=Ii es acc ((Bg es acc).getD 0+n)
 have hmx:(Cc es acc ((Bg es acc).getD 0+n)).length≤maxLen:=by unfold maxLen;omega
 have hget:Lv false false [vI 0] ((Bg es acc).map vI)=vI ((Bg es acc).getD 0):=by cases Bg es acc<;>rfl
 have hS':=hS
 simp [OkS] at hS'
 have hb2 : ∀v,(L.set mb v)[b]?=some (.cells (mC s oth lv mb sum)):=fun v=>by rw [List.getElem?_set_ne (Ne.symm hne)];exact hb
 unfold mC at hb hb2 ⊢
 (refine FnS.of_code mix Tryz.call86 k_86 (by simp) (fun hB=>?_);(try simp at hB);(try simp -implicitDefEqProofs))
 (try simp -implicitDefEqProofs [hb,hb2,hmb,hfm,hsm,hmx,h1,h2])
 exact⟨Aa.set (show leB L.length tk.length (.cells _) (.cells _) from ⟨A4 _,by simp [okNs,okN,hlv,hml]⟩) b (Aa.set (E7 _) mb hS.1),hS.2⟩
end Go.Proofs.YtmlpmdccfmmpoaaGreatDoor
