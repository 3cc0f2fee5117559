/- Integers of any length: signs, limbs in order, comparisons; the program's and the reference's. -/
import Derived.Test.YtmlpmdccfmmpoaaGreatInP
import Derived.Test.YtmlpmdccfmmpoaaGreatSlices
import Derived.Test.YtmlpmdccfmmpoaaGreatCodeB
set_option linter.unusedSimpArgs false
set_option linter.unusedVariables false
set_option maxHeartbeats 1000000
set_option maxRecDepth 8000
section
namespace Go.Proofs.YtmlpmdccfmmpoaaGreat
def rnd (a:Int) (q:Nat):Int:=if a<0 then -(((2*a.natAbs+q) / (2*q):Nat):Int) else (((2*a.natAbs+q) / (2*q):Nat):Int)
theorem O2 {a:Int} {q g:Nat} (hg:0<g):rnd (a*g) (q*g)=rnd a q:=by
 have e:(2*(a*g).natAbs+q*g) / (2*(q*g))=(2*a.natAbs+q) / (2*q):=by
  rw [Int.natAbs_mul,Int.natAbs_natCast,←Nat.mul_assoc,←Nat.mul_assoc,←Nat.add_mul,Nat.mul_div_mul_right _ _ hg]
 unfold rnd
 rw [e]
 have hs:a*g<0↔a<0:=by
  constructor
  ·intro h
   rcases Int.lt_or_le a 0 with h1|h1
   ·exact h1
   ·have:=Int.mul_nonneg h1 (Int.natCast_nonneg g);omega
  ·intro h
   exact Int.mul_neg_of_neg_of_pos h (by omega)
 by_cases h:a<0
 ·rw [if_pos h,if_pos (hs.2 h)]
 ·rw [if_neg h,if_neg (fun x=>h (hs.1 x))]
def C6 (a:Int) (q:Nat):Int:=a.tdiv (Nat.gcd a.natAbs q)
def C7 (a:Int) (q:Nat):Nat:=q / Nat.gcd a.natAbs q
theorem G9 {a:Int} {q:Nat} (hq:0<q):0<Nat.gcd a.natAbs q:=Nat.gcd_pos_of_pos_right _ hq
theorem Ox {a:Int} {q:Nat} : C6 a q*(Nat.gcd a.natAbs q:Nat)=a:=by
 unfold C6
 apply Int.tdiv_mul_cancel
 exact Int.ofNat_dvd_left.2 (Nat.gcd_dvd_left _ _)
theorem Ua {a:Int} {q:Nat} : C7 a q*Nat.gcd a.natAbs q=q:=Nat.div_mul_cancel (Nat.gcd_dvd_right _ _)
theorem Oy {a:Int} {q:Nat} (hq:0<q):0<C7 a q:=Nat.div_pos (Nat.le_of_dvd hq (Nat.gcd_dvd_right _ _)) (G9 hq)
theorem S4 {a:Int} {q:Nat} : C7 a q≤q:=Nat.div_le_self _ _
theorem Ub {a:Int} {q:Nat} (hq:0<q):rnd (C6 a q) (C7 a q)=rnd a q:=by
 rw [←O2 (G9 (a:=a) hq),Ox,Ua]
theorem Oz {a:Int} {q:Nat} (hq:0<q):(C6 a q).natAbs≤a.natAbs:=by
 have h:=congrArg Int.natAbs (Ox (a:=a) (q:=q))
 rw [Int.natAbs_mul,Int.natAbs_natCast] at h
 rw [←h]
 exact Nat.le_mul_of_pos_right _ (G9 hq)
theorem Uc {a:Int} {q:Nat} (hq:0<q):(rnd a q).natAbs≤a.natAbs+1:=by
 have h:(2*a.natAbs+q) / (2*q)≤a.natAbs+1:=by
  rw [Nat.div_le_iff_le_mul_add_pred (by omega)]
  have:2*q*(a.natAbs+1)=2*(q*a.natAbs)+2*q:=by rw [Nat.mul_add,Nat.mul_assoc];omega
  have h2:1*a.natAbs≤q*a.natAbs:=Nat.mul_le_mul_right _ hq
  omega
 unfold rnd
 generalize (2*a.natAbs+q) / (2*q)=z at *
 split<;>omega
theorem S5 {a:Int} {q:Nat} : (2*a+(if a<0 then -(q:Int) else q)).tdiv (2*q)=rnd a q:=by
 unfold rnd
 by_cases h:a<0
 ·rw [if_pos h,if_pos h]
  have e:2*a + -(q:Int) = -((2*a.natAbs+q:Nat):Int):=by omega
  rw [e,Int.neg_tdiv]
  congr 1
 ·rw [if_neg h,if_neg h]
  have e:2*a+(q:Int)=((2*a.natAbs+q:Nat):Int):=by omega
  rw [e]
  rfl
end Go.Proofs.YtmlpmdccfmmpoaaGreat
end
namespace Go.Proofs.YtmlpmdccfmmpoaaGreat
open E
def b9:Nat:=1000000000
def b4:Nat:=10000
theorem Bj:2≤b9:=by decide
theorem Bc:2≤b4:=by decide
theorem Kq:0<b9:=by decide
theorem S6:0<b4:=by decide
def lE (k:IntKind) (l:List Nat):List (List T):=l.map fun (x:Nat)=>[T.int k (x:Int)]
def lT (k:IntKind) (l:List Nat):T:=.sl (lE k l)
def iC (B:Nat) (k:IntKind) (z:Int):List T:=[.bool (decide (z<0)),lT k (A4 B z.natAbs)]
def iV (B:Nat) (k:IntKind) (z:Int):V:=.agg ((iC B k z).map .t)
@[simp] theorem Zc (k:IntKind) (l:List Nat):(lE k l).length=l.length:=by simp [lE]
theorem Hi (k:IntKind) (l:List Nat) : ∀e:List T,e∈lE k l→e.length=1:=fun e he=>by
 obtain⟨x,_,rfl⟩:=List.mem_map.1 he;rfl
theorem Bi {k:IntKind} {l:List Nat} {i x:Nat} (h:l[i]?=some x):(lE k l)[i]?=some [.int k (x:Int)]:=by simp [lE,h]
theorem B8 {k:IntKind} {l:List Nat} {i x:Nat} (h:l[i]?=some x) : ∀hi,(lE k l)[i]'hi=[.int k (x:Int)]:=fun hi=>by
 have:=Bi (k:=k) h;rw [List.getElem?_eq_getElem hi] at this;exact Option.some.inj this
theorem P0 (k:IntKind) (l:List Nat) (n:Nat):(lE k l).take n=lE k (l.take n):=by simp [lE,List.map_take]
theorem Ud (k:IntKind) (l:List Nat) (n:Nat):(lE k l).drop n=lE k (l.drop n):=by simp [lE,List.map_drop]
theorem Ek (k:IntKind) (a b:List Nat):lE k (a++b)=lE k a++lE k b:=by simp [lE]
theorem Cg (k:IntKind):lE k []=[]:=rfl
theorem Io (k:IntKind) (x:Nat):lE k [x]=[[.int k (x:Int)]]:=rfl

theorem S7 {l:List Nat} (h:Lim b9 l):A7 Tryz.prog 103 [.t (lT .u32 l)] (.t (lT .u32 (A4 b9 (lvl b9 l)))):=by
 unfold lT
 (refine A7.of_code mix Tryz.call103 k_103 (by simp) (fun hB=>?_);(try simp at hB);(try simp -implicitDefEqProofs))
 refine Ac (X:=Nat) (fun k=>k≤l.length∧∀j,k≤j→j<l.length→l[j]?=some 0) (fun k=>[(0,.t (.sl (lE .u32 (l.take k))))]) (fun _=>⟨[],[]⟩) (fun k=>k) l.length ⟨by omega,fun j h1 h2=>by omega⟩ ?hs ?_
 case hs=>simp
 rintro k ⟨hk,hz⟩ hbd
 have hm:min k l.length=k:=by omega
 rcases Nat.eq_zero_or_pos k with k0|k0
 ·subst k0
  have e:=F1 Bj h 0 (by omega) hz (.inl rfl)
  rw [e]
  (try simp -implicitDefEqProofs [Cg])
 ·obtain⟨x,hx⟩:=Aa (show k-1<l.length by omega)
  have hxt:(l.take k)[k-1]?=some x:=by rw [List.getElem?_take,if_pos (by omega)];exact hx
  have e3:IntKind.i64.wrap ((k:Int)-1)=(k:Int)-1:=wrap64 (by omega) (by simp [maxLen] at hB;omega)
  have i1:((k:Int)-1).toNat=k-1:=by omega
  have g1:=Bi (k:=.u32) hxt
  have g2:=B8 (k:=.u32) hxt
  have j1:(1:Int)≤k:=by omega
  have j2:(k:Int)-1<k:=by omega
  have j3:(k:Int)-1≤k:=by omega
  by_cases h0:x=0
  ·subst h0
   (try simp -implicitDefEqProofs [hm,e3,i1,g1,g2,k0,j1,j2,j3])
   refine⟨Hi _ _,k-1,⟨by omega,fun j h1 h2=>?_⟩,by omega,?_⟩
   ·by_cases hj:j=k-1
    ·subst hj;exact hx
    ·exact hz j (by omega) h2
   ·rw [P0,List.take_take,Nat.min_eq_left (by omega)]
  ·have e:=F1 Bj h k hk hz (.inr (by rw [hx];intro e;exact h0 (Option.some.inj e)))
   have h1:((x:Int)==0)=false:=by simpa using h0
   rw [e]
   (try simp -implicitDefEqProofs [hm,e3,i1,g1,g2,k0,h1,j1,j2,j3])
theorem F3 {l:List Nat} (h:Lim b4 l):A7 Tryz.prog 87 [.t (lT .i64 l)] (.t (lT .i64 (A4 b4 (lvl b4 l)))):=by
 unfold lT
 (refine A7.of_code mix Tryz.call87 k_87 (by simp) (fun hB=>?_);(try simp at hB);(try simp -implicitDefEqProofs))
 refine Ac (X:=Nat) (fun k=>k≤l.length∧∀j,k≤j→j<l.length→l[j]?=some 0) (fun k=>[(0,.t (.sl (lE .i64 (l.take k))))]) (fun _=>⟨[],[]⟩) (fun k=>k) l.length ⟨by omega,fun j h1 h2=>by omega⟩ ?hs ?_
 case hs=>simp
 rintro k ⟨hk,hz⟩ hbd
 have hm:min k l.length=k:=by omega
 rcases Nat.eq_zero_or_pos k with k0|k0
 ·subst k0
  have e:=F1 Bc h 0 (by omega) hz (.inl rfl)
  rw [e]
  (try simp -implicitDefEqProofs [Cg])
 ·obtain⟨x,hx⟩:=Aa (show k-1<l.length by omega)
  have hxt:(l.take k)[k-1]?=some x:=by rw [List.getElem?_take,if_pos (by omega)];exact hx
  have e3:IntKind.i64.wrap ((k:Int)-1)=(k:Int)-1:=wrap64 (by omega) (by simp [maxLen] at hB;omega)
  have i1:((k:Int)-1).toNat=k-1:=by omega
  have g1:=Bi (k:=.i64) hxt
  have g2:=B8 (k:=.i64) hxt
  have j1:(1:Int)≤k:=by omega
  have j2:(k:Int)-1<k:=by omega
  have j3:(k:Int)-1≤k:=by omega
  by_cases h0:x=0
  ·subst h0
   (try simp -implicitDefEqProofs [hm,e3,i1,g1,g2,k0,j1,j2,j3])
   refine⟨Hi _ _,k-1,⟨by omega,fun j h1 h2=>?_⟩,by omega,?_⟩
   ·by_cases hj:j=k-1
    ·subst hj;exact hx
    ·exact hz j (by omega) h2
   ·rw [P0,List.take_take,Nat.min_eq_left (by omega)]
  ·have e:=F1 Bc h k hk hz (.inr (by rw [hx];intro e;exact h0 (Option.some.inj e)))
   have h1:((x:Int)==0)=false:=by simpa using h0
   rw [e]
   (try simp -implicitDefEqProofs [hm,e3,i1,g1,g2,k0,h1,j1,j2,j3])
def Du (neg:Bool) (n:Nat):Int:=if neg=true then -(n:Int) else n
theorem M4 (neg:Bool) (n:Nat):(Du neg n).natAbs=n:=by unfold Du;split<;>omega
theorem M5 (neg:Bool) (n:Nat):decide (Du neg n<0)=(neg&&decide (0<n)):=by
 unfold Du;cases neg
 ·simp
 ·simp
theorem Ju {B:Nat} (hB:2≤B) (n:Nat):decide ((0:Int)<((A4 B n).length:Int))=decide (0<n):=by
 by_cases h:n=0
 ·subst h;simp [Ar]
 ·have:0<(A4 B n).length:=by rw [C3 hB h];simp
  simp [this];omega
theorem Dv {l:List Nat} (neg:Bool) (h:Lim b9 l):A7 Tryz.prog 104 [vB neg,.t (lT .u32 l)] (iV b9 .u32 (Du neg (lvl b9 l))):=by
 have ht:=S7 h
 have h1:=Ju Bj (lvl b9 l)
 have h2:=M5 neg (lvl b9 l)
 unfold iV iC
 rw [M4,h2,←h1]
 unfold lT at ht ⊢
 (refine A7.of_code mix Tryz.call104 k_104 (by simp) (fun hB=>?_);(try simp at hB);(try simp -implicitDefEqProofs))
 cases neg
 ·((try simp at ht);(try simp -implicitDefEqProofs);repeat' first|(with_reducible apply A0<;>first|(simp only [eras,era,A1];first|with_reducible assumption)|(simp -implicitDefEqProofs)))
 ·((try simp at ht);(try simp -implicitDefEqProofs);repeat' first|(with_reducible apply A0<;>first|(simp only [eras,era,A1];first|with_reducible assumption)|(simp -implicitDefEqProofs)))
theorem F4 {l:List Nat} (neg:Bool) (h:Lim b4 l):A7 Tryz.prog 64 [vB neg,.t (lT .i64 l)] (iV b4 .i64 (Du neg (lvl b4 l))):=by
 have ht:=F3 h
 have h1:=Ju Bc (lvl b4 l)
 have h2:=M5 neg (lvl b4 l)
 unfold iV iC
 rw [M4,h2,←h1]
 unfold lT at ht ⊢
 (refine A7.of_code mix Tryz.call64 k_64 (by simp) (fun hB=>?_);(try simp at hB);(try simp -implicitDefEqProofs))
 cases neg
 ·((try simp at ht);(try simp -implicitDefEqProofs);repeat' first|(with_reducible apply A0<;>first|(simp only [eras,era,A1];first|with_reducible assumption)|(simp -implicitDefEqProofs)))
 ·((try simp at ht);(try simp -implicitDefEqProofs);repeat' first|(with_reducible apply A0<;>first|(simp only [eras,era,A1];first|with_reducible assumption)|(simp -implicitDefEqProofs)))
def sgn (z:Int):Int:=if z<0 then -1 else if z=0 then 0 else 1
theorem Ch {B:Nat} (hB:2≤B) {n:Nat} (h:n≠0):0<(A4 B n).length:=by rw [C3 hB h];simp
theorem Fq (z:Int):A7 Tryz.prog 61 [iV b9 .u32 z] (vI (sgn z)):=by
 unfold iV iC lT sgn
 (refine A7.of_code mix Tryz.call61 k_61 (by simp) (fun hB=>?_);(try simp at hB);(try simp -implicitDefEqProofs))
 by_cases h:z=0
 ·subst h
  (try simp -implicitDefEqProofs [Ar,Cg])
 ·have h1:=Ch Bj (show z.natAbs≠0 by omega)
  have h2:(((A4 b9 z.natAbs).length:Int)==0)=false:=by simp;intro e;simp [e] at h1
  by_cases h3:z<0
  ·(try simp -implicitDefEqProofs [h,h2,h3])
  ·(try simp -implicitDefEqProofs [h,h2,h3])
theorem P1 (z:Int):A7 Tryz.prog 83 [iV b4 .i64 z] (vI (sgn z)):=by
 unfold iV iC lT sgn
 (refine A7.of_code mix Tryz.call83 k_83 (by simp) (fun hB=>?_);(try simp at hB);(try simp -implicitDefEqProofs))
 by_cases h:z=0
 ·subst h
  (try simp -implicitDefEqProofs [Ar,Cg])
 ·have h1:=Ch Bc (show z.natAbs≠0 by omega)
  have h2:(((A4 b4 z.natAbs).length:Int)==0)=false:=by simp;intro e;simp [e] at h1
  by_cases h3:z<0
  ·(try simp -implicitDefEqProofs [h,h2,h3])
  ·(try simp -implicitDefEqProofs [h,h2,h3])
theorem Ql (z:Int):Du (!decide (z<0)) z.natAbs = -z:=by
 unfold Du
 by_cases h:z<0<;>simp [h]<;>omega
theorem Yd (z:Int):A7 Tryz.prog 81 [iV b9 .u32 z] (iV b9 .u32 (-z)):=by
 have hs:=Dv (!decide (z<0)) (Ak Bj z.natAbs)
 rw [Aj Bj,Ql] at hs
 unfold iV iC lT at *
 (refine A7.of_code mix Tryz.call81 k_81 (by simp) (fun hB=>?_);(try simp at hB);(try simp -implicitDefEqProofs))
 ((try simp at hs);(try simp -implicitDefEqProofs);repeat' first|(with_reducible apply A0<;>first|(simp only [eras,era,A1];first|with_reducible assumption)|(simp -implicitDefEqProofs)))
end Go.Proofs.YtmlpmdccfmmpoaaGreat
