/- Integers of any length: made of numbers, compared. -/
import Derived.Test.YtmlpmdccfmmpoaaGreatDoorInP
import Derived.Test.YtmlpmdccfmmpoaaGreatDoorFds
import Derived.Test.YtmlpmdccfmmpoaaGreatDoorCodeB
set_option linter.unusedSimpArgs false
set_option linter.unusedVariables false
set_option maxHeartbeats 1000000
set_option maxRecDepth 8000
section
namespace Go.Proofs.YtmlpmdccfmmpoaaGreatDoor
def rnd (a:Int) (q:Nat):Int:=if a<0 then -(((2*a.natAbs+q) / (2*q):Nat):Int) else (((2*a.natAbs+q) / (2*q):Nat):Int)
theorem U3 {a:Int} {q g:Nat} (hg:0<g):rnd (a*g) (q*g)=rnd a q:=by
 have e:(2*(a*g).natAbs+q*g) / (2*(q*g))=(2*a.natAbs+q) / (2*q):=by
  rw [Int.natAbs_mul,Int.natAbs_natCast,←Nat.mul_assoc,←Nat.mul_assoc,←Nat.add_mul,Nat.mul_div_mul_right _ _ hg]
 unfold rnd
 rw [e]
 have hs:a*g<0↔a<0:=by
  constructor
  ·intro h
   rcases Int.lt_or_le a 0 with h1|h1
   ·exact h1
   ·have:=Int.mul_nonneg h1 (Int.natCast_nonneg g);omega
  ·intro h
   exact Int.mul_neg_of_neg_of_pos h (by omega)
 by_cases h:a<0
 ·rw [if_pos h,if_pos (hs.2 h)]
 ·rw [if_neg h,if_neg (fun x=>h (hs.1 x))]
def C5 (a:Int) (q:Nat):Int:=a.tdiv (Nat.gcd a.natAbs q)
def C6 (a:Int) (q:Nat):Nat:=q / Nat.gcd a.natAbs q
theorem J1 {a:Int} {q:Nat} (hq:0<q):0<Nat.gcd a.natAbs q:=Nat.gcd_pos_of_pos_right _ hq
theorem Vd {a:Int} {q:Nat} : C5 a q*(Nat.gcd a.natAbs q:Nat)=a:=by
 unfold C5
 apply Int.tdiv_mul_cancel
 exact Int.ofNat_dvd_left.2 (Nat.gcd_dvd_left _ _)
theorem A29 {a:Int} {q:Nat} : C6 a q*Nat.gcd a.natAbs q=q:=Nat.div_mul_cancel (Nat.gcd_dvd_right _ _)
theorem Ve {a:Int} {q:Nat} (hq:0<q):0<C6 a q:=Nat.div_pos (Nat.le_of_dvd hq (Nat.gcd_dvd_right _ _)) (J1 hq)
theorem Zj {a:Int} {q:Nat} : C6 a q≤q:=Nat.div_le_self _ _
theorem A2a {a:Int} {q:Nat} (hq:0<q):rnd (C5 a q) (C6 a q)=rnd a q:=by
 rw [←U3 (J1 (a:=a) hq),Vd,A29]
theorem Vf {a:Int} {q:Nat} (hq:0<q):(C5 a q).natAbs≤a.natAbs:=by
 have h:=congrArg Int.natAbs (Vd (a:=a) (q:=q))
 rw [Int.natAbs_mul,Int.natAbs_natCast] at h
 rw [←h]
 exact Nat.le_mul_of_pos_right _ (J1 hq)
theorem A2b {a:Int} {q:Nat} (hq:0<q):(rnd a q).natAbs≤a.natAbs+1:=by
 have h:(2*a.natAbs+q) / (2*q)≤a.natAbs+1:=by
  rw [Nat.div_le_iff_le_mul_add_pred (by omega)]
  have:2*q*(a.natAbs+1)=2*(q*a.natAbs)+2*q:=by rw [Nat.mul_add,Nat.mul_assoc];omega
  have h2:1*a.natAbs≤q*a.natAbs:=Nat.mul_le_mul_right _ hq
  omega
 unfold rnd
 generalize (2*a.natAbs+q) / (2*q)=z at *
 split<;>omega
theorem Zk {a:Int} {q:Nat} : (2*a+(if a<0 then -(q:Int) else q)).tdiv (2*q)=rnd a q:=by
 unfold rnd
 by_cases h:a<0
 ·rw [if_pos h,if_pos h]
  have e:2*a + -(q:Int) = -((2*a.natAbs+q:Nat):Int):=by omega
  rw [e,Int.neg_tdiv]
  congr 1
 ·rw [if_neg h,if_neg h]
  have e:2*a+(q:Int)=((2*a.natAbs+q:Nat):Int):=by omega
  rw [e]
  rfl
end Go.Proofs.YtmlpmdccfmmpoaaGreatDoor
end
namespace Go.Proofs.YtmlpmdccfmmpoaaGreatDoor
open E
def b9:Nat:=1000000000
def b4:Nat:=10000
theorem C8:2≤b9:=by decide
theorem Bt:2≤b4:=by decide
theorem P3:0<b9:=by decide
theorem Zl:0<b4:=by decide
def lE (k:IntKind) (l:List Nat):List (List T):=l.map fun (x:Nat)=>[T.int k (x:Int)]
def lT (k:IntKind) (l:List Nat):T:=.sl (lE k l)
def iC (B:Nat) (k:IntKind) (z:Int):List T:=[.bool (decide (z<0)),lT k (A9 B z.natAbs)]
def iV (B:Nat) (k:IntKind) (z:Int):V:=.agg ((iC B k z).map .t)
@[simp] theorem A8d (k:IntKind) (l:List Nat):(lE k l).length=l.length:=by simp [lE]
theorem Kv (k:IntKind) (l:List Nat) : ∀e:List T,e∈lE k l→e.length=1:=fun e he=>by
 obtain⟨x,_,rfl⟩:=List.mem_map.1 he;rfl
theorem C7 {k:IntKind} {l:List Nat} {i x:Nat} (h:l[i]?=some x):(lE k l)[i]?=some [.int k (x:Int)]:=by simp [lE,h]
theorem Bo {k:IntKind} {l:List Nat} {i x:Nat} (h:l[i]?=some x) : ∀hi,(lE k l)[i]'hi=[.int k (x:Int)]:=fun hi=>by
 have:=C7 (k:=k) h;rw [List.getElem?_eq_getElem hi] at this;exact Option.some.inj this
theorem Vg (k:IntKind) (l:List Nat) (n:Nat):(lE k l).take n=lE k (l.take n):=by simp [lE,List.map_take]
theorem A2c (k:IntKind) (l:List Nat) (n:Nat):(lE k l).drop n=lE k (l.drop n):=by simp [lE,List.map_drop]
theorem Gx (k:IntKind) (a b:List Nat):lE k (a++b)=lE k a++lE k b:=by simp [lE]
theorem D4 (k:IntKind):lE k []=[]:=rfl
theorem Ma (k:IntKind) (x:Nat):lE k [x]=[[.int k (x:Int)]]:=rfl

theorem Zm {l:List Nat} (h:Lim b9 l):A8 Tryz.prog 175 [.t (lT .u32 l)] (.t (lT .u32 (A9 b9 (lvl b9 l)))):=by
 unfold lT
 (refine A8.of_code mix Tryz.call175 k_175 (by simp) (fun hB=>?_);(try simp at hB);(try simp -implicitDefEqProofs))
 refine A7 (X:=Nat) (fun k=>k≤l.length∧∀j,k≤j→j<l.length→l[j]?=some 0) (fun k=>[(0,.t (.sl (lE .u32 (l.take k))))]) (fun _=>⟨[],[]⟩) (fun k=>k) l.length ⟨by omega,fun j h1 h2=>by omega⟩ ?hs ?_
 case hs=>simp
 rintro k ⟨hk,hz⟩ hbd
 have hm:min k l.length=k:=by omega
 rcases Nat.eq_zero_or_pos k with k0|k0
 ·subst k0
  have e:=Hb C8 h 0 (by omega) hz (.inl rfl)
  rw [e]
  (try simp -implicitDefEqProofs [D4])
 ·obtain⟨x,hx⟩:=Aa (show k-1<l.length by omega)
  have hxt:(l.take k)[k-1]?=some x:=by rw [List.getElem?_take,if_pos (by omega)];exact hx
  have e3:IntKind.i64.wrap ((k:Int)-1)=(k:Int)-1:=wrap64 (by omega) (by simp [maxLen] at hB;omega)
  have i1:((k:Int)-1).toNat=k-1:=by omega
  have g1:=C7 (k:=.u32) hxt
  have g2:=Bo (k:=.u32) hxt
  have j1:(1:Int)≤k:=by omega
  have j2:(k:Int)-1<k:=by omega
  have j3:(k:Int)-1≤k:=by omega
  by_cases h0:x=0
  ·subst h0
   (try simp -implicitDefEqProofs [hm,e3,i1,g1,g2,k0,j1,j2,j3])
   refine⟨Kv _ _,k-1,⟨by omega,fun j h1 h2=>?_⟩,by omega,?_⟩
   ·by_cases hj:j=k-1
    ·subst hj;exact hx
    ·exact hz j (by omega) h2
   ·rw [Vg,List.take_take,Nat.min_eq_left (by omega)]
  ·have e:=Hb C8 h k hk hz (.inr (by rw [hx];intro e;exact h0 (Option.some.inj e)))
   have h1:((x:Int)==0)=false:=by simpa using h0
   rw [e]
   (try simp -implicitDefEqProofs [hm,e3,i1,g1,g2,k0,h1,j1,j2,j3])
theorem Hd {l:List Nat} (h:Lim b4 l):A8 Tryz.prog 149 [.t (lT .i64 l)] (.t (lT .i64 (A9 b4 (lvl b4 l)))):=by
 unfold lT
 (refine A8.of_code mix Tryz.call149 k_149 (by simp) (fun hB=>?_);(try simp at hB);(try simp -implicitDefEqProofs))
 refine A7 (X:=Nat) (fun k=>k≤l.length∧∀j,k≤j→j<l.length→l[j]?=some 0) (fun k=>[(0,.t (.sl (lE .i64 (l.take k))))]) (fun _=>⟨[],[]⟩) (fun k=>k) l.length ⟨by omega,fun j h1 h2=>by omega⟩ ?hs ?_
 case hs=>simp
 rintro k ⟨hk,hz⟩ hbd
 have hm:min k l.length=k:=by omega
 rcases Nat.eq_zero_or_pos k with k0|k0
 ·subst k0
  have e:=Hb Bt h 0 (by omega) hz (.inl rfl)
  rw [e]
  (try simp -implicitDefEqProofs [D4])
 ·obtain⟨x,hx⟩:=Aa (show k-1<l.length by omega)
  have hxt:(l.take k)[k-1]?=some x:=by rw [List.getElem?_take,if_pos (by omega)];exact hx
  have e3:IntKind.i64.wrap ((k:Int)-1)=(k:Int)-1:=wrap64 (by omega) (by simp [maxLen] at hB;omega)
  have i1:((k:Int)-1).toNat=k-1:=by omega
  have g1:=C7 (k:=.i64) hxt
  have g2:=Bo (k:=.i64) hxt
  have j1:(1:Int)≤k:=by omega
  have j2:(k:Int)-1<k:=by omega
  have j3:(k:Int)-1≤k:=by omega
  by_cases h0:x=0
  ·subst h0
   (try simp -implicitDefEqProofs [hm,e3,i1,g1,g2,k0,j1,j2,j3])
   refine⟨Kv _ _,k-1,⟨by omega,fun j h1 h2=>?_⟩,by omega,?_⟩
   ·by_cases hj:j=k-1
    ·subst hj;exact hx
    ·exact hz j (by omega) h2
   ·rw [Vg,List.take_take,Nat.min_eq_left (by omega)]
  ·have e:=Hb Bt h k hk hz (.inr (by rw [hx];intro e;exact h0 (Option.some.inj e)))
   have h1:((x:Int)==0)=false:=by simpa using h0
   rw [e]
   (try simp -implicitDefEqProofs [hm,e3,i1,g1,g2,k0,h1,j1,j2,j3])
def Fo (neg:Bool) (n:Nat):Int:=if neg=true then -(n:Int) else n
theorem R4 (neg:Bool) (n:Nat):(Fo neg n).natAbs=n:=by unfold Fo;split<;>omega
theorem R5 (neg:Bool) (n:Nat):decide (Fo neg n<0)=(neg&&decide (0<n)):=by
 unfold Fo;cases neg
 ·simp
 ·simp
theorem O0 {B:Nat} (hB:2≤B) (n:Nat):decide ((0:Int)<((A9 B n).length:Int))=decide (0<n):=by
 by_cases h:n=0
 ·subst h;simp [B1]
 ·have:0<(A9 B n).length:=by rw [Cp hB h];simp
  simp [this];omega
theorem Fp {l:List Nat} (neg:Bool) (h:Lim b9 l):A8 Tryz.prog 176 [vB neg,.t (lT .u32 l)] (iV b9 .u32 (Fo neg (lvl b9 l))):=by
 have ht:=Zm h
 have h1:=O0 C8 (lvl b9 l)
 have h2:=R5 neg (lvl b9 l)
 unfold iV iC
 rw [R4,h2,←h1]
 unfold lT at ht ⊢
 (refine A8.of_code mix Tryz.call176 k_176 (by simp) (fun hB=>?_);(try simp at hB);(try simp -implicitDefEqProofs))
 cases neg
 ·((try simp at ht);(try simp -implicitDefEqProofs);repeat' first|(with_reducible apply A0<;>first|(simp only [eras,era,A1];first|with_reducible assumption)|(simp -implicitDefEqProofs)))
 ·((try simp at ht);(try simp -implicitDefEqProofs);repeat' first|(with_reducible apply A0<;>first|(simp only [eras,era,A1];first|with_reducible assumption)|(simp -implicitDefEqProofs)))
theorem He {l:List Nat} (neg:Bool) (h:Lim b4 l):A8 Tryz.prog 112 [vB neg,.t (lT .i64 l)] (iV b4 .i64 (Fo neg (lvl b4 l))):=by
 have ht:=Hd h
 have h1:=O0 Bt (lvl b4 l)
 have h2:=R5 neg (lvl b4 l)
 unfold iV iC
 rw [R4,h2,←h1]
 unfold lT at ht ⊢
 (refine A8.of_code mix Tryz.call112 k_112 (by simp) (fun hB=>?_);(try simp at hB);(try simp -implicitDefEqProofs))
 cases neg
 ·((try simp at ht);(try simp -implicitDefEqProofs);repeat' first|(with_reducible apply A0<;>first|(simp only [eras,era,A1];first|with_reducible assumption)|(simp -implicitDefEqProofs)))
 ·((try simp at ht);(try simp -implicitDefEqProofs);repeat' first|(with_reducible apply A0<;>first|(simp only [eras,era,A1];first|with_reducible assumption)|(simp -implicitDefEqProofs)))
def sgn (z:Int):Int:=if z<0 then -1 else if z=0 then 0 else 1
theorem D5 {B:Nat} (hB:2≤B) {n:Nat} (h:n≠0):0<(A9 B n).length:=by rw [Cp hB h];simp
theorem I7 (z:Int):A8 Tryz.prog 109 [iV b9 .u32 z] (vI (sgn z)):=by
 unfold iV iC lT sgn
 (refine A8.of_code mix Tryz.call109 k_109 (by simp) (fun hB=>?_);(try simp at hB);(try simp -implicitDefEqProofs))
 by_cases h:z=0
 ·subst h
  (try simp -implicitDefEqProofs [B1,D4])
 ·have h1:=D5 C8 (show z.natAbs≠0 by omega)
  have h2:(((A9 b9 z.natAbs).length:Int)==0)=false:=by simp;intro e;simp [e] at h1
  by_cases h3:z<0
  ·(try simp -implicitDefEqProofs [h,h2,h3])
  ·(try simp -implicitDefEqProofs [h,h2,h3])
theorem Vh (z:Int):A8 Tryz.prog 145 [iV b4 .i64 z] (vI (sgn z)):=by
 unfold iV iC lT sgn
 (refine A8.of_code mix Tryz.call145 k_145 (by simp) (fun hB=>?_);(try simp at hB);(try simp -implicitDefEqProofs))
 by_cases h:z=0
 ·subst h
  (try simp -implicitDefEqProofs [B1,D4])
 ·have h1:=D5 Bt (show z.natAbs≠0 by omega)
  have h2:(((A9 b4 z.natAbs).length:Int)==0)=false:=by simp;intro e;simp [e] at h1
  by_cases h3:z<0
  ·(try simp -implicitDefEqProofs [h,h2,h3])
  ·(try simp -implicitDefEqProofs [h,h2,h3])
theorem X5 (z:Int):Fo (!decide (z<0)) z.natAbs = -z:=by
 unfold Fo
 by_cases h:z<0<;>simp [h]<;>omega
theorem A7f (z:Int):A8 Tryz.prog 143 [iV b9 .u32 z] (iV b9 .u32 (-z)):=by
 have hs:=Fp (!decide (z<0)) (Ar C8 z.natAbs)
 rw [An C8,X5] at hs
 unfold iV iC lT at *
 (refine A8.of_code mix Tryz.call143 k_143 (by simp) (fun hB=>?_);(try simp at hB);(try simp -implicitDefEqProofs))
 ((try simp at hs);(try simp -implicitDefEqProofs);repeat' first|(with_reducible apply A0<;>first|(simp only [eras,era,A1];first|with_reducible assumption)|(simp -implicitDefEqProofs)))
theorem Fq {x:Nat} (h:x<18446744073709551616):IntKind.u64.wrap (x:Int)=(x:Int):=IntWalk.u64_in _ (by omega)
theorem G1 {x:Nat} (h:x<4294967296):IntKind.u32.wrap (x:Int)=(x:Int):=IntWalk.u32_in _ (by omega)
theorem Ek {x:Nat} (h:x<9223372036854775808):IntKind.i64.wrap (x:Int)=(x:Int):=wrap64 (by omega) (by omega)
theorem Zn {n:Int} (h1 : -9223372036854775808≤n) (h2:n≤9223372036854775807):A8 Tryz.prog 59 [vI n] (iV b9 .u32 n):=by
 have hu:IntKind.u64.wrap n=if n<0 then n+18446744073709551616 else n:=by
  rw [IntKind.wrap_u64];split<;>omega
 obtain⟨N,hN⟩ : ∃N,N=n.natAbs:=⟨_,rfl⟩
 have hNb:N≤9223372036854775808:=by omega
 have hst:(if n<0 then IntKind.u64.wrap (-(IntKind.u64.wrap n)) else IntKind.u64.wrap n)=(N:Int):=by
  by_cases h:n<0
  ·rw [if_pos h,hu,if_pos h,show -(n+18446744073709551616) = -n-18446744073709551616 by omega,IntKind.wrap_u64];omega
  ·rw [if_neg h,hu,if_neg h];omega
 unfold iV iC lT
 rw [←hN]
 (refine A8.of_code mix Tryz.call59 k_59 (by simp) (fun hB=>?_);(try simp at hB);(try simp -implicitDefEqProofs))
 rcases (by omega:n<0∨¬n<0) with hd|hd
 all_goals first|rw [if_pos hd] at hst|rw [if_neg hd] at hst
 all_goals (try simp -implicitDefEqProofs [hst,hd])
 all_goals
  refine Bm [(.slot 4,215,1)] (X:=List Nat×Nat) (fun X=>X.1++A9 b9 X.2=A9 b9 N∧X.2≤N) (fun X=>[(0,vI n),(2,.ptr 0 0),(3,.t (.int .u64 X.2)),(4,.own 0 215 1 (lE .u32 X.1))]) (fun X=>⟨[.cells [.t (.bool false),.snil]],[X.1.length]⟩) (fun X=>X.2) ([],N) ⟨rfl,Nat.le_refl _⟩ ?_ ?_
 all_goals first|(simp [D4];done)|skip
 all_goals
  rintro ⟨l,m⟩ ⟨hl,hm⟩ hbd
  simp only [] at hl hm
  clear hbd
  by_cases m0:m=0
  ·subst m0
   rw [B1,List.append_nil] at hl
   rw [←hl]
   (try simp -implicitDefEqProofs [hd])
  ·have hl2:=hl
   rw [Cp C8 m0] at hl2
   obtain⟨d,hdd⟩ : ∃d,d=m % b9:=⟨_,rfl⟩
   obtain⟨q,hq⟩ : ∃q,q=m / b9:=⟨_,rfl⟩
   rw [←hdd,←hq] at hl2
   have r1:(m:Int).tmod 1000000000=(d:Int):=by rw [hdd];rfl
   have r2:IntKind.u64.wrap (d:Int)=(d:Int):=Fq (by rw [hdd];unfold b9;omega)
   have r3:IntKind.u32.wrap (d:Int)=(d:Int):=G1 (by rw [hdd];unfold b9;omega)
   have q1:(m:Int).tdiv 1000000000=(q:Int):=by rw [hq];rfl
   have q2:IntKind.u64.wrap (q:Int)=(q:Int):=Fq (by rw [hq];unfold b9;omega)
   have hlt:q<m:=by rw [hq];exact Nat.div_lt_self (by omega) (by decide)
   have m1:0<m:=by omega
   have hlen:l.length≤1000:=by
    have:=congrArg List.length hl
    rw [List.length_append] at this
    have h3:=D3 (B:=b9) (n:=N) (k:=3) C8 (by unfold b9;omega)
    omega
   (try simp -implicitDefEqProofs [r1,r2,r3,q1,q2,m1,maxLen])
   exact⟨⟨by omega,by omega⟩,l++[d],q,⟨by rw [List.append_assoc];exact hl2,by omega⟩,hlt,by simp,rfl,by rw [Gx];exact .inl (.inl rfl)⟩
theorem A3v {n:Int} (h1 : -9223372036854775808≤n) (h2:n≤9223372036854775807):A8 Tryz.prog 61 [vI n] (iV b4 .i64 n):=by
 have hs:=He (decide (n<0)) (Ar Bt n.natAbs)
 rw [An Bt] at hs
 have hsg:Fo (decide (n<0)) n.natAbs=n:=by unfold Fo;by_cases h:n<0<;>simp [h]<;>omega
 rw [hsg] at hs
 unfold iV iC lT at *
 (refine A8.of_code mix Tryz.call61 k_61 (by simp) (fun hB=>?_);(try simp at hB);(try simp -implicitDefEqProofs))
 refine Bm [(.slot 3,3,1)] (X:=List Nat×Int) (fun X=>X.1++A9 b4 X.2.natAbs=A9 b4 n.natAbs∧X.2.natAbs≤n.natAbs∧(X.2<0→n<0)∧(0<X.2→0<n)) (fun X=>[(0,vI n),(2,.ptr 0 0),(3,.own 0 3 1 (lE .i64 X.1)),(4,vI X.2)]) (fun X=>⟨[.cells [.t (.bool false),.snil]],[X.1.length]⟩) (fun X=>X.2.natAbs) ([],n) ⟨rfl,Nat.le_refl _,id,id⟩ ?hs ?_
 case hs=>simp [D4]
 rintro ⟨l,m⟩ ⟨hl,hm,hs1,hs2⟩ hbd
 simp only [] at hl hm hs1 hs2
 clear hbd
 by_cases m0:m=0
 ·subst m0
  rw [Int.natAbs_zero,B1,List.append_nil] at hl
  rw [←hl] at hs ⊢
  ((try simp at hs);(try simp -implicitDefEqProofs);repeat' first|(with_reducible apply A0<;>first|(simp only [eras,era,A1];first|with_reducible assumption)|(simp -implicitDefEqProofs)))
 ·have hl2:=hl
  rw [Cp Bt (show m.natAbs≠0 by omega)] at hl2
  obtain⟨d,hdd⟩ : ∃d,d=m.natAbs % b4:=⟨_,rfl⟩
  obtain⟨q,hq⟩ : ∃q:Int,q=m.tdiv 10000:=⟨_,rfl⟩
  have hqa:m.natAbs / b4=q.natAbs:=by rw [hq,Int.natAbs_tdiv];rfl
  rw [←hdd,hqa] at hl2
  have r1:m.tmod 10000=if m<0 then -(d:Int) else (d:Int):=by
   rw [hdd];unfold b4
   by_cases h:m<0
   ·rw [if_pos h]
    have e:m = -((m.natAbs:Nat):Int):=by omega
    conv=>lhs;rw [e]
    rw [Int.neg_tmod];rfl
   ·rw [if_neg h]
    have e:m=((m.natAbs:Nat):Int):=by omega
    conv=>lhs;rw [e]
    rfl
  have hlt:q.natAbs<m.natAbs:=by rw [←hqa];exact Nat.div_lt_self (by omega) (by decide)
  have hqs1:q<0→m<0:=fun h=>by
   rcases Int.lt_or_le m 0 with h3|h3
   ·exact h3
   ·have:=Int.tdiv_nonneg h3 (show (0:Int)≤10000 by decide);omega
  have hqs2:0<q→0<m:=fun h=>by
   rcases Int.lt_or_le 0 m with h3|h3
   ·exact h3
   ·have h4:=Int.tdiv_nonneg (show (0:Int)≤-m by omega) (show (0:Int)≤10000 by decide)
    rw [Int.neg_tdiv] at h4;omega
  have q2:IntKind.i64.wrap q=q:=wrap64 (by omega) (by omega)
  have hdb:d<10000:=by rw [hdd];unfold b4;omega
  have m1:(m != 0)=true:=by simpa using m0
  have hlen:l.length≤1000:=by
   have:=congrArg List.length hl
   rw [List.length_append] at this
   have h3:=D3 (B:=b4) (n:=n.natAbs) (k:=5) Bt (by unfold b4;omega)
   omega
  by_cases hmn:m<0
  ·rw [if_pos hmn] at r1
   have r2:IntKind.i64.wrap (-(d:Int)) = -(d:Int):=wrap64 (by omega) (by omega)
   have r3:IntKind.i64.wrap (d:Int)=(d:Int):=wrap64 (by omega) (by omega)
   by_cases d0:d=0
   ·subst d0
    have r1:m.tmod 10000=0:=by simpa using r1
    (try simp -implicitDefEqProofs [r1,←hq,q2,m1,maxLen,m0])
    all_goals exact⟨⟨by omega,by omega⟩,l++[0],q,⟨by rw [List.append_assoc];exact hl2,by omega,by omega,by omega⟩,hlt,by simp,by rw [Gx];exact .inl (.inl rfl),rfl⟩
   ·have d1 : -(d:Int)<0:=by omega
    have d2:0<d:=by omega
    (try simp -implicitDefEqProofs [r1,r2,r3,d1,d2,←hq,q2,m1,maxLen,m0])
    exact⟨⟨by omega,by omega⟩,l++[d],q,⟨by rw [List.append_assoc];exact hl2,by omega,by omega,by omega⟩,hlt,by simp,by rw [Gx];exact .inl (.inl rfl),rfl⟩
  ·rw [if_neg hmn] at r1
   have r3:IntKind.i64.wrap (d:Int)=(d:Int):=wrap64 (by omega) (by omega)
   have d1 : ¬(d:Int)<0:=by omega
   (try simp -implicitDefEqProofs [r1,r3,d1,←hq,q2,m1,maxLen,m0])
   exact⟨⟨by omega,by omega⟩,l++[d],q,⟨by rw [List.append_assoc];exact hl2,by omega,by omega,by omega⟩,hlt,by simp,by rw [Gx];exact .inl (.inl rfl),rfl⟩
theorem U4 (x y:Nat):A8 Tryz.prog 208 [.t (lT .u32 (A9 b9 x)),.t (lT .u32 (A9 b9 y))] (vI (Cq x y)):=by
 unfold lT
 by_cases hl:(A9 b9 x).length=(A9 b9 y).length
 ·have hl':(((A9 b9 x).length:Int) != ((A9 b9 y).length:Int))=false:=by simp [hl]
  (refine A8.of_code mix Tryz.call208 k_208 (by simp) (fun hB=>?_);(try simp at hB);(try simp -implicitDefEqProofs))
  (try simp -implicitDefEqProofs [hl'])
  refine A7 (X:=Nat) (fun k=>k≤(A9 b9 x).length∧∀j,k≤j→(A9 b9 x)[j]?=(A9 b9 y)[j]?) (fun k=>[(0,.t (.sl (lE .u32 (A9 b9 x)))),(1,.t (.sl (lE .u32 (A9 b9 y)))),(5,vI ((k:Int)-1))]) (fun _=>⟨[],[]⟩) (fun k=>k) (A9 b9 x).length ⟨by omega,fun j hj=>by rw [List.getElem?_eq_none hj,List.getElem?_eq_none (by omega)]⟩ ?hs ?_
  case hs=>simp;exact (wrap64 (by omega) (by simp [maxLen] at hB;omega)).symm
  rintro k ⟨hk,he⟩ hbd
  clear hbd
  rcases Nat.eq_zero_or_pos k with k0|k0
  ·subst k0
   have e:A9 b9 x=A9 b9 y:=by
    apply List.ext_getElem?
    intro j;exact he j (by omega)
   rw [Qz C8 e]
   (try simp -implicitDefEqProofs)
  ·obtain⟨u,hu⟩:=Aa (show k-1<(A9 b9 x).length by omega)
   obtain⟨v,hv⟩:=Aa (show k-1<(A9 b9 y).length by omega)
   have g1:=C7 (k:=.u32) hu
   have g2:=Bo (k:=.u32) hu
   have g3:=C7 (k:=.u32) hv
   have g4:=Bo (k:=.u32) hv
   have i1:((k:Int)-1).toNat=k-1:=by omega
   have j1:(1:Int)≤k:=by omega
   have j2:(k:Int)-1<((A9 b9 x).length:Int):=by omega
   have j3:(k:Int)-1<((A9 b9 y).length:Int):=by omega
   have e3:IntKind.i64.wrap ((k:Int)-1-1)=(k:Int)-1-1:=wrap64 (by omega) (by simp [maxLen] at hB;omega)
   by_cases huv:u=v
   ·subst huv
    (try simp -implicitDefEqProofs [g1,g2,g3,g4,i1,j1,j2,j3,e3])
    refine⟨k-1,⟨by omega,fun j hj=>?_⟩,by omega,by omega⟩
    by_cases hjk:j=k-1
    ·subst hjk;rw [hu,hv]
    ·exact he j (by omega)
   ·rw [Qx C8 hl (k-1) (fun j hj=>he j (by omega)) hu hv huv]
    have h3:((u:Int) != (v:Int))=true:=by simp;omega
    by_cases h4:u<v
    ·(try simp -implicitDefEqProofs [g1,g2,g3,g4,i1,j1,j2,j3,h3,h4])
    ·(try simp -implicitDefEqProofs [g1,g2,g3,g4,i1,j1,j2,j3,h3,h4])
 ·rw [Qy C8 hl]
  have hl':(((A9 b9 x).length:Int) != ((A9 b9 y).length:Int))=true:=by simp;omega
  (refine A8.of_code mix Tryz.call208 k_208 (by simp) (fun hB=>?_);(try simp at hB);(try simp -implicitDefEqProofs))
  by_cases h4:(A9 b9 x).length<(A9 b9 y).length
  ·(try simp -implicitDefEqProofs [hl',h4])
  ·(try simp -implicitDefEqProofs [hl',h4])
theorem A2d (x y:Nat):A8 Tryz.prog 184 [.t (lT .i64 (A9 b4 x)),.t (lT .i64 (A9 b4 y))] (vI (Cq x y)):=by
 unfold lT
 by_cases hl:(A9 b4 x).length=(A9 b4 y).length
 ·have hl':(((A9 b4 x).length:Int) != ((A9 b4 y).length:Int))=false:=by simp [hl]
  (refine A8.of_code mix Tryz.call184 k_184 (by simp) (fun hB=>?_);(try simp at hB);(try simp -implicitDefEqProofs))
  (try simp -implicitDefEqProofs [hl'])
  refine A7 (X:=Nat) (fun k=>k≤(A9 b4 x).length∧∀j,k≤j→(A9 b4 x)[j]?=(A9 b4 y)[j]?) (fun k=>[(0,.t (.sl (lE .i64 (A9 b4 x)))),(1,.t (.sl (lE .i64 (A9 b4 y)))),(5,vI ((k:Int)-1))]) (fun _=>⟨[],[]⟩) (fun k=>k) (A9 b4 x).length ⟨by omega,fun j hj=>by rw [List.getElem?_eq_none hj,List.getElem?_eq_none (by omega)]⟩ ?hs ?_
  case hs=>simp;exact (wrap64 (by omega) (by simp [maxLen] at hB;omega)).symm
  rintro k ⟨hk,he⟩ hbd
  clear hbd
  rcases Nat.eq_zero_or_pos k with k0|k0
  ·subst k0
   have e:A9 b4 x=A9 b4 y:=by
    apply List.ext_getElem?
    intro j;exact he j (by omega)
   rw [Qz Bt e]
   (try simp -implicitDefEqProofs)
  ·obtain⟨u,hu⟩:=Aa (show k-1<(A9 b4 x).length by omega)
   obtain⟨v,hv⟩:=Aa (show k-1<(A9 b4 y).length by omega)
   have g1:=C7 (k:=.i64) hu
   have g2:=Bo (k:=.i64) hu
   have g3:=C7 (k:=.i64) hv
   have g4:=Bo (k:=.i64) hv
   have i1:((k:Int)-1).toNat=k-1:=by omega
   have j1:(1:Int)≤k:=by omega
   have j2:(k:Int)-1<((A9 b4 x).length:Int):=by omega
   have j3:(k:Int)-1<((A9 b4 y).length:Int):=by omega
   have e3:IntKind.i64.wrap ((k:Int)-1-1)=(k:Int)-1-1:=wrap64 (by omega) (by simp [maxLen] at hB;omega)
   by_cases huv:u=v
   ·subst huv
    (try simp -implicitDefEqProofs [g1,g2,g3,g4,i1,j1,j2,j3,e3])
    all_goals refine⟨k-1,⟨by omega,fun j hj=>?_⟩,by omega,by omega⟩
    all_goals by_cases hjk:j=k-1
    all_goals first|exact he j (by omega)|(subst hjk;rw [hu,hv])
   ·rw [Qx Bt hl (k-1) (fun j hj=>he j (by omega)) hu hv huv]
    have h3:((u:Int) != (v:Int))=true:=by simp;omega
    by_cases h4:u<v
    ·(try simp -implicitDefEqProofs [g1,g2,g3,g4,i1,j1,j2,j3,h3,h4])
    ·have h5:v<u:=by omega
     (try simp -implicitDefEqProofs [g1,g2,g3,g4,i1,j1,j2,j3,h3,h4,h5])
 ·rw [Qy Bt hl]
  have hl':(((A9 b4 x).length:Int) != ((A9 b4 y).length:Int))=true:=by simp;omega
  (refine A8.of_code mix Tryz.call184 k_184 (by simp) (fun hB=>?_);(try simp at hB);(try simp -implicitDefEqProofs))
  by_cases h4:(A9 b4 x).length<(A9 b4 y).length
  ·(try simp -implicitDefEqProofs [hl',h4])
  ·(try simp -implicitDefEqProofs [hl',h4])
theorem A2e (x y:Int) (h:sgn x=sgn y):(if x<0 then Cq y.natAbs x.natAbs else Cq x.natAbs y.natAbs)=if x<y then -1 else if y<x then 1 else 0:=by
 unfold sgn at h
 unfold Cq
 by_cases h1:x<0<;>by_cases h2:y<0<;>simp only [h1,h2,if_true,if_false] at h ⊢
 ·repeat' split
  all_goals omega
 ·split at h<;>omega
 ·split at h<;>omega
 ·repeat' split
  all_goals omega
def X6 (x y:Int):Int:=if x<y then -1 else if y<x then 1 else 0
theorem Zo (x y:Int):A8 Tryz.prog 178 [iV b9 .u32 x,iV b9 .u32 y] (vI (X6 x y)):=by
 have s1:=I7 x
 have s2:=I7 y
 have c1:=U4 x.natAbs y.natAbs
 have c2:=U4 y.natAbs x.natAbs
 have hc:=A2e x y
 unfold X6
 by_cases hs:sgn x=sgn y
 ·have hs':(sgn x != sgn y)=false:=by simp [hs]
  rw [←hc hs]
  unfold iV iC lT at *
  by_cases hx:x<0
  ·have hd:decide (x<0)=true:=by simp [hx]
   rw [if_pos hx]
   simp only [hd] at s1 c1 c2 ⊢
   (refine A8.of_code mix Tryz.call178 k_178 (by simp) (fun hB=>?_);(try simp at hB);(try simp -implicitDefEqProofs))
   ((try simp at s1 s2 c1 c2);(try simp -implicitDefEqProofs [hs']);repeat' first|(with_reducible apply A0<;>first|(simp only [eras,era,A1];first|with_reducible assumption)|(simp -implicitDefEqProofs [hs'])))
  ·have hd:decide (x<0)=false:=by simp [hx]
   rw [if_neg hx]
   simp only [hd] at s1 c1 c2 ⊢
   (refine A8.of_code mix Tryz.call178 k_178 (by simp) (fun hB=>?_);(try simp at hB);(try simp -implicitDefEqProofs))
   ((try simp at s1 s2 c1 c2);(try simp -implicitDefEqProofs [hs']);repeat' first|(with_reducible apply A0<;>first|(simp only [eras,era,A1];first|with_reducible assumption)|(simp -implicitDefEqProofs [hs'])))
 ·have hs':(sgn x != sgn y)=true:=by simp;exact hs
  have hd:(if x<y then (-1:Int) else if y<x then 1 else 0)=if sgn x<sgn y then -1 else 1:=by
   unfold sgn at hs ⊢
   repeat' split at hs
   all_goals repeat' split
   all_goals first|rfl|omega
  rw [hd]
  unfold iV iC lT at *
  (refine A8.of_code mix Tryz.call178 k_178 (by simp) (fun hB=>?_);(try simp at hB);(try simp -implicitDefEqProofs))
  by_cases hx:sgn x<sgn y
  ·((try simp at s1 s2);(try simp -implicitDefEqProofs [hs',hx]);repeat' first|(with_reducible apply A0<;>first|(simp only [eras,era,A1];first|with_reducible assumption)|(simp -implicitDefEqProofs [hs',hx])))
  ·((try simp at s1 s2);(try simp -implicitDefEqProofs [hs',hx]);repeat' first|(with_reducible apply A0<;>first|(simp only [eras,era,A1];first|with_reducible assumption)|(simp -implicitDefEqProofs [hs',hx])))
end Go.Proofs.YtmlpmdccfmmpoaaGreatDoor
