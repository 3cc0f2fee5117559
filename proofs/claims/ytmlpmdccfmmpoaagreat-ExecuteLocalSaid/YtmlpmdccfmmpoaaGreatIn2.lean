/- Integers of any length: made of numbers, compared. -/
import Derived.Test.YtmlpmdccfmmpoaaGreatIn1
set_option linter.unusedSimpArgs false
set_option linter.unusedVariables false
set_option maxHeartbeats 1000000
set_option maxRecDepth 8000
namespace Go.Proofs.YtmlpmdccfmmpoaaGreat
open E

theorem Dw {x:Nat} (h:x<18446744073709551616):IntKind.u64.wrap (x:Int)=(x:Int):=IntWalk.u64_in _ (by omega)
theorem E7 {x:Nat} (h:x<4294967296):IntKind.u32.wrap (x:Int)=(x:Int):=IntWalk.u32_in _ (by omega)
theorem D6 {x:Nat} (h:x<9223372036854775808):IntKind.i64.wrap (x:Int)=(x:Int):=wrap64 (by omega) (by omega)
theorem S8 {n:Int} (h1 : -9223372036854775808≤n) (h2:n≤9223372036854775807):A7 Tryz.prog 40 [vI n] (iV b9 .u32 n):=by
 have hu:IntKind.u64.wrap n=if n<0 then n+18446744073709551616 else n:=by
  rw [IntKind.wrap_u64];split<;>omega
 obtain⟨N,hN⟩ : ∃N,N=n.natAbs:=⟨_,rfl⟩
 have hNb:N≤9223372036854775808:=by omega
 have hst:(if n<0 then IntKind.u64.wrap (-(IntKind.u64.wrap n)) else IntKind.u64.wrap n)=(N:Int):=by
  by_cases h:n<0
  ·rw [if_pos h,hu,if_pos h,show -(n+18446744073709551616) = -n-18446744073709551616 by omega,IntKind.wrap_u64];omega
  ·rw [if_neg h,hu,if_neg h];omega
 unfold iV iC lT
 rw [←hN]
 (refine A7.of_code mix Tryz.call40 k_40 (by simp) (fun hB=>?_);(try simp at hB);(try simp -implicitDefEqProofs))
 rcases (by omega:n<0∨¬n<0) with hd|hd
 all_goals first|rw [if_pos hd] at hst|rw [if_neg hd] at hst
 all_goals (try simp -implicitDefEqProofs [hst,hd])
 all_goals
  refine Bl [(.slot 4,137,1)] (X:=List Nat×Nat) (fun X=>X.1++A4 b9 X.2=A4 b9 N∧X.2≤N) (fun X=>[(0,vI n),(2,.ptr 0 0),(3,.t (.int .u64 X.2)),(4,.own 0 137 1 (lE .u32 X.1))]) (fun X=>⟨[.cells [.t (.bool false),.snil]],[X.1.length]⟩) (fun X=>X.2) ([],N) ⟨rfl,Nat.le_refl _⟩ ?_ ?_
 all_goals first|(simp [Cg];done)|skip
 all_goals
  rintro ⟨l,m⟩ ⟨hl,hm⟩ hbd
  simp only [] at hl hm
  clear hbd
  by_cases m0:m=0
  ·subst m0
   rw [Ar,List.append_nil] at hl
   rw [←hl]
   (try simp -implicitDefEqProofs [hd])
  ·have hl2:=hl
   rw [C3 Bj m0] at hl2
   obtain⟨d,hdd⟩ : ∃d,d=m % b9:=⟨_,rfl⟩
   obtain⟨q,hq⟩ : ∃q,q=m / b9:=⟨_,rfl⟩
   rw [←hdd,←hq] at hl2
   have r1:(m:Int).tmod 1000000000=(d:Int):=by rw [hdd];rfl
   have r2:IntKind.u64.wrap (d:Int)=(d:Int):=Dw (by rw [hdd];unfold b9;omega)
   have r3:IntKind.u32.wrap (d:Int)=(d:Int):=E7 (by rw [hdd];unfold b9;omega)
   have q1:(m:Int).tdiv 1000000000=(q:Int):=by rw [hq];rfl
   have q2:IntKind.u64.wrap (q:Int)=(q:Int):=Dw (by rw [hq];unfold b9;omega)
   have hlt:q<m:=by rw [hq];exact Nat.div_lt_self (by omega) (by decide)
   have m1:0<m:=by omega
   have hlen:l.length≤1000:=by
    have:=congrArg List.length hl
    rw [List.length_append] at this
    have h3:=Cf (B:=b9) (n:=N) (k:=3) Bj (by unfold b9;omega)
    omega
   (try simp -implicitDefEqProofs [r1,r2,r3,q1,q2,m1,maxLen])
   exact⟨⟨by omega,by omega⟩,l++[d],q,⟨by rw [List.append_assoc];exact hl2,by omega⟩,hlt,by simp,rfl,by rw [Ek];exact .inl (.inl rfl)⟩
theorem Vq {n:Int} (h1 : -9223372036854775808≤n) (h2:n≤9223372036854775807):A7 Tryz.prog 42 [vI n] (iV b4 .i64 n):=by
 have hs:=F4 (decide (n<0)) (Ak Bc n.natAbs)
 rw [Aj Bc] at hs
 have hsg:Du (decide (n<0)) n.natAbs=n:=by unfold Du;by_cases h:n<0<;>simp [h]<;>omega
 rw [hsg] at hs
 unfold iV iC lT at *
 (refine A7.of_code mix Tryz.call42 k_42 (by simp) (fun hB=>?_);(try simp at hB);(try simp -implicitDefEqProofs))
 refine Bl [(.slot 3,3,1)] (X:=List Nat×Int) (fun X=>X.1++A4 b4 X.2.natAbs=A4 b4 n.natAbs∧X.2.natAbs≤n.natAbs∧(X.2<0→n<0)∧(0<X.2→0<n)) (fun X=>[(0,vI n),(2,.ptr 0 0),(3,.own 0 3 1 (lE .i64 X.1)),(4,vI X.2)]) (fun X=>⟨[.cells [.t (.bool false),.snil]],[X.1.length]⟩) (fun X=>X.2.natAbs) ([],n) ⟨rfl,Nat.le_refl _,id,id⟩ ?hs ?_
 case hs=>simp [Cg]
 rintro ⟨l,m⟩ ⟨hl,hm,hs1,hs2⟩ hbd
 simp only [] at hl hm hs1 hs2
 clear hbd
 by_cases m0:m=0
 ·subst m0
  rw [Int.natAbs_zero,Ar,List.append_nil] at hl
  rw [←hl] at hs ⊢
  ((try simp at hs);(try simp -implicitDefEqProofs);repeat' first|(with_reducible apply A0<;>first|(simp only [eras,era,A1];first|with_reducible assumption)|(simp -implicitDefEqProofs)))
 ·have hl2:=hl
  rw [C3 Bc (show m.natAbs≠0 by omega)] at hl2
  obtain⟨d,hdd⟩ : ∃d,d=m.natAbs % b4:=⟨_,rfl⟩
  obtain⟨q,hq⟩ : ∃q:Int,q=m.tdiv 10000:=⟨_,rfl⟩
  have hqa:m.natAbs / b4=q.natAbs:=by rw [hq,Int.natAbs_tdiv];rfl
  rw [←hdd,hqa] at hl2
  have r1:m.tmod 10000=if m<0 then -(d:Int) else (d:Int):=by
   rw [hdd];unfold b4
   by_cases h:m<0
   ·rw [if_pos h]
    have e:m = -((m.natAbs:Nat):Int):=by omega
    conv=>lhs;rw [e]
    rw [Int.neg_tmod];rfl
   ·rw [if_neg h]
    have e:m=((m.natAbs:Nat):Int):=by omega
    conv=>lhs;rw [e]
    rfl
  have hlt:q.natAbs<m.natAbs:=by rw [←hqa];exact Nat.div_lt_self (by omega) (by decide)
  have hqs1:q<0→m<0:=fun h=>by
   rcases Int.lt_or_le m 0 with h3|h3
   ·exact h3
   ·have:=Int.tdiv_nonneg h3 (show (0:Int)≤10000 by decide);omega
  have hqs2:0<q→0<m:=fun h=>by
   rcases Int.lt_or_le 0 m with h3|h3
   ·exact h3
   ·have h4:=Int.tdiv_nonneg (show (0:Int)≤-m by omega) (show (0:Int)≤10000 by decide)
    rw [Int.neg_tdiv] at h4;omega
  have q2:IntKind.i64.wrap q=q:=wrap64 (by omega) (by omega)
  have hdb:d<10000:=by rw [hdd];unfold b4;omega
  have m1:(m != 0)=true:=by simpa using m0
  have hlen:l.length≤1000:=by
   have:=congrArg List.length hl
   rw [List.length_append] at this
   have h3:=Cf (B:=b4) (n:=n.natAbs) (k:=5) Bc (by unfold b4;omega)
   omega
  by_cases hmn:m<0
  ·rw [if_pos hmn] at r1
   have r2:IntKind.i64.wrap (-(d:Int)) = -(d:Int):=wrap64 (by omega) (by omega)
   have r3:IntKind.i64.wrap (d:Int)=(d:Int):=wrap64 (by omega) (by omega)
   by_cases d0:d=0
   ·subst d0
    have r1:m.tmod 10000=0:=by simpa using r1
    (try simp -implicitDefEqProofs [r1,←hq,q2,m1,maxLen,m0])
    all_goals exact⟨⟨by omega,by omega⟩,l++[0],q,⟨by rw [List.append_assoc];exact hl2,by omega,by omega,by omega⟩,hlt,by simp,by rw [Ek];exact .inl (.inl rfl),rfl⟩
   ·have d1 : -(d:Int)<0:=by omega
    have d2:0<d:=by omega
    (try simp -implicitDefEqProofs [r1,r2,r3,d1,d2,←hq,q2,m1,maxLen,m0])
    exact⟨⟨by omega,by omega⟩,l++[d],q,⟨by rw [List.append_assoc];exact hl2,by omega,by omega,by omega⟩,hlt,by simp,by rw [Ek];exact .inl (.inl rfl),rfl⟩
  ·rw [if_neg hmn] at r1
   have r3:IntKind.i64.wrap (d:Int)=(d:Int):=wrap64 (by omega) (by omega)
   have d1 : ¬(d:Int)<0:=by omega
   (try simp -implicitDefEqProofs [r1,r3,d1,←hq,q2,m1,maxLen,m0])
   exact⟨⟨by omega,by omega⟩,l++[d],q,⟨by rw [List.append_assoc];exact hl2,by omega,by omega,by omega⟩,hlt,by simp,by rw [Ek];exact .inl (.inl rfl),rfl⟩
theorem O3 (x y:Nat):A7 Tryz.prog 118 [.t (lT .u32 (A4 b9 x)),.t (lT .u32 (A4 b9 y))] (vI (C4 x y)):=by
 unfold lT
 by_cases hl:(A4 b9 x).length=(A4 b9 y).length
 ·have hl':(((A4 b9 x).length:Int) != ((A4 b9 y).length:Int))=false:=by simp [hl]
  (refine A7.of_code mix Tryz.call118 k_118 (by simp) (fun hB=>?_);(try simp at hB);(try simp -implicitDefEqProofs))
  (try simp -implicitDefEqProofs [hl'])
  refine Ac (X:=Nat) (fun k=>k≤(A4 b9 x).length∧∀j,k≤j→(A4 b9 x)[j]?=(A4 b9 y)[j]?) (fun k=>[(0,.t (.sl (lE .u32 (A4 b9 x)))),(1,.t (.sl (lE .u32 (A4 b9 y)))),(5,vI ((k:Int)-1))]) (fun _=>⟨[],[]⟩) (fun k=>k) (A4 b9 x).length ⟨by omega,fun j hj=>by rw [List.getElem?_eq_none hj,List.getElem?_eq_none (by omega)]⟩ ?hs ?_
  case hs=>simp;exact (wrap64 (by omega) (by simp [maxLen] at hB;omega)).symm
  rintro k ⟨hk,he⟩ hbd
  clear hbd
  rcases Nat.eq_zero_or_pos k with k0|k0
  ·subst k0
   have e:A4 b9 x=A4 b9 y:=by
    apply List.ext_getElem?
    intro j;exact he j (by omega)
   rw [M0 Bj e]
   (try simp -implicitDefEqProofs)
  ·obtain⟨u,hu⟩:=Aa (show k-1<(A4 b9 x).length by omega)
   obtain⟨v,hv⟩:=Aa (show k-1<(A4 b9 y).length by omega)
   have g1:=Bi (k:=.u32) hu
   have g2:=B8 (k:=.u32) hu
   have g3:=Bi (k:=.u32) hv
   have g4:=B8 (k:=.u32) hv
   have i1:((k:Int)-1).toNat=k-1:=by omega
   have j1:(1:Int)≤k:=by omega
   have j2:(k:Int)-1<((A4 b9 x).length:Int):=by omega
   have j3:(k:Int)-1<((A4 b9 y).length:Int):=by omega
   have e3:IntKind.i64.wrap ((k:Int)-1-1)=(k:Int)-1-1:=wrap64 (by omega) (by simp [maxLen] at hB;omega)
   by_cases huv:u=v
   ·subst huv
    (try simp -implicitDefEqProofs [g1,g2,g3,g4,i1,j1,j2,j3,e3])
    refine⟨k-1,⟨by omega,fun j hj=>?_⟩,by omega,by omega⟩
    by_cases hjk:j=k-1
    ·subst hjk;rw [hu,hv]
    ·exact he j (by omega)
   ·rw [Ly Bj hl (k-1) (fun j hj=>he j (by omega)) hu hv huv]
    have h3:((u:Int) != (v:Int))=true:=by simp;omega
    by_cases h4:u<v
    ·(try simp -implicitDefEqProofs [g1,g2,g3,g4,i1,j1,j2,j3,h3,h4])
    ·(try simp -implicitDefEqProofs [g1,g2,g3,g4,i1,j1,j2,j3,h3,h4])
 ·rw [Lz Bj hl]
  have hl':(((A4 b9 x).length:Int) != ((A4 b9 y).length:Int))=true:=by simp;omega
  (refine A7.of_code mix Tryz.call118 k_118 (by simp) (fun hB=>?_);(try simp at hB);(try simp -implicitDefEqProofs))
  by_cases h4:(A4 b9 x).length<(A4 b9 y).length
  ·(try simp -implicitDefEqProofs [hl',h4])
  ·(try simp -implicitDefEqProofs [hl',h4])
theorem Ue (x y:Nat):A7 Tryz.prog 122 [.t (lT .i64 (A4 b4 x)),.t (lT .i64 (A4 b4 y))] (vI (C4 x y)):=by
 unfold lT
 by_cases hl:(A4 b4 x).length=(A4 b4 y).length
 ·have hl':(((A4 b4 x).length:Int) != ((A4 b4 y).length:Int))=false:=by simp [hl]
  (refine A7.of_code mix Tryz.call122 k_122 (by simp) (fun hB=>?_);(try simp at hB);(try simp -implicitDefEqProofs))
  (try simp -implicitDefEqProofs [hl'])
  refine Ac (X:=Nat) (fun k=>k≤(A4 b4 x).length∧∀j,k≤j→(A4 b4 x)[j]?=(A4 b4 y)[j]?) (fun k=>[(0,.t (.sl (lE .i64 (A4 b4 x)))),(1,.t (.sl (lE .i64 (A4 b4 y)))),(5,vI ((k:Int)-1))]) (fun _=>⟨[],[]⟩) (fun k=>k) (A4 b4 x).length ⟨by omega,fun j hj=>by rw [List.getElem?_eq_none hj,List.getElem?_eq_none (by omega)]⟩ ?hs ?_
  case hs=>simp;exact (wrap64 (by omega) (by simp [maxLen] at hB;omega)).symm
  rintro k ⟨hk,he⟩ hbd
  clear hbd
  rcases Nat.eq_zero_or_pos k with k0|k0
  ·subst k0
   have e:A4 b4 x=A4 b4 y:=by
    apply List.ext_getElem?
    intro j;exact he j (by omega)
   rw [M0 Bc e]
   (try simp -implicitDefEqProofs)
  ·obtain⟨u,hu⟩:=Aa (show k-1<(A4 b4 x).length by omega)
   obtain⟨v,hv⟩:=Aa (show k-1<(A4 b4 y).length by omega)
   have g1:=Bi (k:=.i64) hu
   have g2:=B8 (k:=.i64) hu
   have g3:=Bi (k:=.i64) hv
   have g4:=B8 (k:=.i64) hv
   have i1:((k:Int)-1).toNat=k-1:=by omega
   have j1:(1:Int)≤k:=by omega
   have j2:(k:Int)-1<((A4 b4 x).length:Int):=by omega
   have j3:(k:Int)-1<((A4 b4 y).length:Int):=by omega
   have e3:IntKind.i64.wrap ((k:Int)-1-1)=(k:Int)-1-1:=wrap64 (by omega) (by simp [maxLen] at hB;omega)
   by_cases huv:u=v
   ·subst huv
    (try simp -implicitDefEqProofs [g1,g2,g3,g4,i1,j1,j2,j3,e3])
    all_goals refine⟨k-1,⟨by omega,fun j hj=>?_⟩,by omega,by omega⟩
    all_goals by_cases hjk:j=k-1
    all_goals first|exact he j (by omega)|(subst hjk;rw [hu,hv])
   ·rw [Ly Bc hl (k-1) (fun j hj=>he j (by omega)) hu hv huv]
    have h3:((u:Int) != (v:Int))=true:=by simp;omega
    by_cases h4:u<v
    ·(try simp -implicitDefEqProofs [g1,g2,g3,g4,i1,j1,j2,j3,h3,h4])
    ·have h5:v<u:=by omega
     (try simp -implicitDefEqProofs [g1,g2,g3,g4,i1,j1,j2,j3,h3,h4,h5])
 ·rw [Lz Bc hl]
  have hl':(((A4 b4 x).length:Int) != ((A4 b4 y).length:Int))=true:=by simp;omega
  (refine A7.of_code mix Tryz.call122 k_122 (by simp) (fun hB=>?_);(try simp at hB);(try simp -implicitDefEqProofs))
  by_cases h4:(A4 b4 x).length<(A4 b4 y).length
  ·(try simp -implicitDefEqProofs [hl',h4])
  ·(try simp -implicitDefEqProofs [hl',h4])
theorem Uf (x y:Int) (h:sgn x=sgn y):(if x<0 then C4 y.natAbs x.natAbs else C4 x.natAbs y.natAbs)=if x<y then -1 else if y<x then 1 else 0:=by
 unfold sgn at h
 unfold C4
 by_cases h1:x<0<;>by_cases h2:y<0<;>simp only [h1,h2,if_true,if_false] at h ⊢
 ·repeat' split
  all_goals omega
 ·split at h<;>omega
 ·split at h<;>omega
 ·repeat' split
  all_goals omega
def Qm (x y:Int):Int:=if x<y then -1 else if y<x then 1 else 0
theorem S9 (x y:Int):A7 Tryz.prog 106 [iV b9 .u32 x,iV b9 .u32 y] (vI (Qm x y)):=by
 have s1:=Fq x
 have s2:=Fq y
 have c1:=O3 x.natAbs y.natAbs
 have c2:=O3 y.natAbs x.natAbs
 have hc:=Uf x y
 unfold Qm
 by_cases hs:sgn x=sgn y
 ·have hs':(sgn x != sgn y)=false:=by simp [hs]
  rw [←hc hs]
  unfold iV iC lT at *
  by_cases hx:x<0
  ·have hd:decide (x<0)=true:=by simp [hx]
   rw [if_pos hx]
   simp only [hd] at s1 c1 c2 ⊢
   (refine A7.of_code mix Tryz.call106 k_106 (by simp) (fun hB=>?_);(try simp at hB);(try simp -implicitDefEqProofs))
   ((try simp at s1 s2 c1 c2);(try simp -implicitDefEqProofs [hs']);repeat' first|(with_reducible apply A0<;>first|(simp only [eras,era,A1];first|with_reducible assumption)|(simp -implicitDefEqProofs [hs'])))
  ·have hd:decide (x<0)=false:=by simp [hx]
   rw [if_neg hx]
   simp only [hd] at s1 c1 c2 ⊢
   (refine A7.of_code mix Tryz.call106 k_106 (by simp) (fun hB=>?_);(try simp at hB);(try simp -implicitDefEqProofs))
   ((try simp at s1 s2 c1 c2);(try simp -implicitDefEqProofs [hs']);repeat' first|(with_reducible apply A0<;>first|(simp only [eras,era,A1];first|with_reducible assumption)|(simp -implicitDefEqProofs [hs'])))
 ·have hs':(sgn x != sgn y)=true:=by simp;exact hs
  have hd:(if x<y then (-1:Int) else if y<x then 1 else 0)=if sgn x<sgn y then -1 else 1:=by
   unfold sgn at hs ⊢
   repeat' split at hs
   all_goals repeat' split
   all_goals first|rfl|omega
  rw [hd]
  unfold iV iC lT at *
  (refine A7.of_code mix Tryz.call106 k_106 (by simp) (fun hB=>?_);(try simp at hB);(try simp -implicitDefEqProofs))
  by_cases hx:sgn x<sgn y
  ·((try simp at s1 s2);(try simp -implicitDefEqProofs [hs',hx]);repeat' first|(with_reducible apply A0<;>first|(simp only [eras,era,A1];first|with_reducible assumption)|(simp -implicitDefEqProofs [hs',hx])))
  ·((try simp at s1 s2);(try simp -implicitDefEqProofs [hs',hx]);repeat' first|(with_reducible apply A0<;>first|(simp only [eras,era,A1];first|with_reducible assumption)|(simp -implicitDefEqProofs [hs',hx])))
end Go.Proofs.YtmlpmdccfmmpoaaGreat
