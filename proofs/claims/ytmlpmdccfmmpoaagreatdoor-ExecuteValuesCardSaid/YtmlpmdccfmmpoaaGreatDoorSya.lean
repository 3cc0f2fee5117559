/- Chapter 32: small functions of both sides. -/
import Derived.Test.YtmlpmdccfmmpoaaGreatDoorXp
section
set_option linter.unusedSimpArgs false
set_option linter.unusedVariables false
set_option maxHeartbeats 2000000
set_option maxRecDepth 8000
namespace Go.Proofs.YtmlpmdccfmmpoaaGreatDoor
open E

theorem A3w (l:List (List UInt8)) (s:List UInt8):A3 Tryz.prog 121 [vSL l,vS s] (vB (inS l s)):=by
 generalize hR:vB (inS l s)=R
 (refine A3.of_code mix Tryz.call121 k_121 (by simp) (fun hB=>?_);(try simp at hB);(try simp -implicitDefEqProofs))
 refine A6 (X:=Nat) (fun k=>k≤l.length∧∀y∈l.take k,¬y=s) (fun k=>[(0,vSL l),(1,vS s),(5,vI k)]) (fun _=>St0) (fun k=>l.length-k) 0 ⟨by simp,by simp⟩ (by simp) ?_
 rintro k ⟨hk,hn⟩ hbd
 rcases Nat.lt_or_ge k l.length with hlt|hge
 ·have hx:l[k]?=some l[k]:=by simp [hlt]
  have e3:IntKind.i64.wrap ((k:Int)+1)=(k:Int)+1:=wrap64 (by omega) (by simp [maxLen] at hB;omega)
  by_cases hq:l[k]=s
  ·have hb:inS l s=true:=by simp only [inS,List.any_eq_true];exact⟨l[k],List.getElem_mem hlt,by simpa using hq⟩
   rw [hb] at hR
   subst hR
   have hq':(l[k]==s)=true:=by simpa using hq
   (try simp -implicitDefEqProofs [hlt,hq',e3])
  ·have hq':(l[k]==s)=false:=by simpa using hq
   (try simp -implicitDefEqProofs [hlt,hq',e3])
   refine⟨k+1,⟨by omega,fun y hy=>?_⟩,by omega,by push_cast;rfl⟩
   rw [Ah hx] at hy
   rcases List.mem_append.1 hy with h1|h1
   ·exact hn y h1
   ·simp at h1;subst h1;exact hq
 ·have:k=l.length:=by omega
  subst this
  rw [List.take_length] at hn
  have hb:inS l s=false:=by
   cases h:inS l s
   ·rfl
   ·simp only [inS,List.any_eq_true,decide_eq_true_eq] at h
    obtain⟨y,h1,h2⟩:=h
    exact absurd h2 (hn y h1)
  rw [hb] at hR
  subst hR
  (try simp -implicitDefEqProofs)
theorem A3x (s:List UInt8):A3 Tryz.prog 154 [vS s] (vB (kwB s)):=by
 have h:=A3w kwL s
 have e:inS kwL s=kwB s:=by
  unfold inS kwB
  generalize kwL=l
  induction l with
  | nil=>rfl
  | cons x l ih=>
   rw [List.any_cons,ih,List.contains_cons]
   congr 1
   by_cases hx:x=s
   ·subst hx;simp
   ·have : ¬s=x:=fun h=>hx h.symm
    simp [hx,this]
 rw [e] at h
 unfold kwL at h
 simp only [vSL,List.map] at h
 generalize kwB s=b at *
 (refine A3.of_code mix Tryz.call154 k_154 (by simp) (fun hB=>?_);(try simp at hB);(try simp -implicitDefEqProofs))
 ((try simp at h);(try simp -implicitDefEqProofs);repeat' first|(with_reducible apply A0<;>first|(simp only [eras,era,A1];first|with_reducible assumption)|(simp -implicitDefEqProofs)))
theorem M9 (s:List UInt8) (hs:s.length≤maxLen):A3 Tryz.prog 116 [vS s] (vB (Cf s)):=by
 have hkw:=A3x s
 unfold Cf
 generalize kwB s=kw at *
 generalize hR:vB (nfB s && !kw)=R
 have hrun:=Iw F4 s
 have hhd:Af s 0=Cx s∨s=[]:=by rcases s with _|⟨c,s⟩;exact .inr rfl;exact .inl rfl
 have hrl:=Ha F4 s
 (refine A3.of_code mix Tryz.call116 k_116 (by simp) (fun hB=>?_);(try simp at hB);(try simp -implicitDefEqProofs))
 refine A6 (X:=Nat) (fun k=>k≤s.length∧(∀j:Nat,j<k→F4 (Af s j)=true)∧(1≤k→Dw (Af s 0)=true)) (fun k=>[(0,vS s),(3,vI k)]) (fun _=>St0) (fun k=>s.length-k) 0 ⟨by simp,fun j hj=>by omega,fun h=>by omega⟩ (by simp) ?_
 rintro k ⟨hk,hn,hl⟩ hbd
 clear hbd
 rcases Nat.lt_or_ge k s.length with h|h
 ·have e3:IntKind.i64.wrap ((k:Int)+1)=(k:Int)+1:=wrap64 (by omega) (by simp [maxLen] at hs;omega)
  have hne : ¬s=[]:=by rintro rfl;simp at h
  have hhd:=hhd.resolve_right hne
  by_cases hk0:k=0
  ·subst hk0
   have hc0:(((0:Nat):Int)==0)=true:=rfl
   have hb:Af s ((0:Nat):Int)=Af s 0:=rfl
   by_cases c1:97≤Af s 0
   ·by_cases c2:Af s 0≤122
    ·(try simp -implicitDefEqProofs [h,e3,c1,c2])
     refine⟨1,⟨by omega,fun j hj=>?_,fun _=>?_⟩,by omega,rfl⟩
     ·have:j=0:=by omega
      subst this
      rw [hb];simp [F4,Dw,c1,c2]
     ·simp [Dw,c1,c2]
    ·have hf:nfB s=false:=by simp [nfB,←hhd,Dw,c2]
     rw [hf] at hR
     subst hR
     (try simp -implicitDefEqProofs [h,e3,c1,c2])
   ·have hf:nfB s=false:=by simp [nfB,←hhd,Dw,c1]
    rw [hf] at hR
    subst hR
    (try simp -implicitDefEqProofs [h,e3,c1])
  ·have hk0':((k:Int)==0)=false:=by simp;omega
   have hstep:F4 (Af s k)=true→∃z':Nat,(z'≤s.length∧(∀j:Nat,j<z'→F4 (Af s j)=true)∧(1≤z'→Dw (Af s 0)=true))∧s.length-z'<s.length-k∧(z':Int)=(k:Int)+1:=by
    intro hc
    refine⟨k+1,⟨by omega,fun j hj=>?_,fun _=>hl (by omega)⟩,by omega,by push_cast;rfl⟩
    rcases Nat.lt_or_ge j k with h1|h1
    ·exact hn j h1
    ·have:j=k:=by omega
     subst this;exact hc
   have hout:F4 (Af s k)=false→nfB s=false:=by
    intro hc
    have:=hrun k hk hn (.inr hc)
    unfold nfB
    rw [this]
    have : ¬k=s.length:=by omega
    simp [this]
   have hcs:F4 (Af s k)=(Dw (Af s k)||Dx (Af s k)||(Af s k==95)):=rfl
   by_cases c0:Dw (Af s k)=true
   ·have hstep:=hstep (by rw [hcs,c0];rfl)
    simp only [Dw,Bool.and_eq_true,decide_eq_true_eq] at c0
    obtain⟨c1,c2⟩:=c0
    (try simp -implicitDefEqProofs [h,e3,c1,c2,hk0'])
    exact hstep
   ·by_cases c3:Dx (Af s k)=true
    ·have hstep:=hstep (by rw [hcs,c3];simp)
     simp only [Dw,Dx,Bool.and_eq_true,decide_eq_true_eq] at c0 c3
     obtain⟨c3,c4⟩:=c3
     have c1 : ¬97≤Af s k:=by omega
     (try simp -implicitDefEqProofs [h,e3,c1,c3,c4,hk0'])
     exact hstep
    ·by_cases c5:Af s k=95
     ·have hstep:=hstep (by rw [hcs,c5];rfl)
      have c5':(Af s k != 95)=false:=by simpa using c5
      have c1 : ¬97≤Af s k:=by omega
      have c3':48≤Af s k:=by omega
      have c4 : ¬Af s k≤57:=by omega
      (try simp -implicitDefEqProofs [h,e3,hk0',c1,c3',c4,c5'])
      exact hstep
     ·have hf:=hout (by rw [hcs];simp [c0,c3,c5])
      rw [hf] at hR
      subst hR
      have c5':(Af s k != 95)=true:=by simpa using c5
      simp only [Dw,Dx,Bool.and_eq_true,decide_eq_true_eq] at c0 c3
      by_cases c1:97≤Af s k
      ·have c2 : ¬Af s k≤122:=fun h=>c0 ⟨c1,h⟩
       have c3':48≤Af s k:=by omega
       have c4 : ¬Af s k≤57:=by omega
       (try simp -implicitDefEqProofs [h,e3,c1,c2,c3',c4,c5',hk0'])
      ·by_cases c3':48≤Af s k
       ·have c4 : ¬Af s k≤57:=fun h=>c3 ⟨c3',h⟩
        (try simp -implicitDefEqProofs [h,e3,c1,c3',c4,c5',hk0'])
       ·(try simp -implicitDefEqProofs [h,e3,c1,c3',c5',hk0'])
 ·have hks:k=s.length:=by omega
  have hr:=hrun k hk hn (.inl hks)
  subst hks
  rcases hhd with hhd|rfl
  ·by_cases h1:1≤s.length
   ·have hl:=hl h1
    have h1':decide ((1:Int)≤s.length)=true:=by simp;omega
    have hf:nfB s=decide (s.length≤16):=by simp [nfB,hr,←hhd,hl,h1]
    by_cases h16:s.length≤16
    ·have h16':decide ((s.length:Int)≤16)=true:=by simp;omega
     rw [hf,decide_eq_true h16] at hR
     subst hR
     ((try simp at hkw);(try simp -implicitDefEqProofs [h1',h16']);repeat' first|(with_reducible apply A0<;>first|(simp only [eras,era,A1];first|with_reducible assumption)|(simp -implicitDefEqProofs [h1',h16'])))
    ·have h16':decide ((s.length:Int)≤16)=false:=by simp;omega
     rw [hf,decide_eq_false h16] at hR
     subst hR
     ((try simp at hkw);(try simp -implicitDefEqProofs [h1',h16']);repeat' first|(with_reducible apply A0<;>first|(simp only [eras,era,A1];first|with_reducible assumption)|(simp -implicitDefEqProofs [h1',h16'])))
   ·have h1':decide ((1:Int)≤s.length)=false:=by simp;omega
    have hf:nfB s=false:=by simp [nfB,h1]
    rw [hf] at hR
    subst hR
    ((try simp at hkw);(try simp -implicitDefEqProofs [h1']);repeat' first|(with_reducible apply A0<;>first|(simp only [eras,era,A1];first|with_reducible assumption)|(simp -implicitDefEqProofs [h1'])))
  ·have hf:nfB []=false:=rfl
   rw [hf] at hR
   subst hR
   ((try simp at hkw);(try simp -implicitDefEqProofs);repeat' first|(with_reducible apply A0<;>first|(simp only [eras,era,A1];first|with_reducible assumption)|(simp -implicitDefEqProofs)))
end Go.Proofs.YtmlpmdccfmmpoaaGreatDoor
end

/- Chapter 32: accounts, numbers of operands, depth. -/
section
set_option linter.unusedSimpArgs false
set_option linter.unusedVariables false
set_option maxHeartbeats 2000000
set_option maxRecDepth 8000
namespace Go.Proofs.YtmlpmdccfmmpoaaGreatDoor
open E

def acB (n:Int):Bool:=decide (1≤n)&&decide (n≤99999)
theorem Ym (n:Int):A3 Tryz.prog 94 [vI n] (vB (acB n)):=by
 unfold acB
 (refine A3.of_code mix Tryz.call94 k_94 (by simp) (fun hB=>?_);(try simp at hB);(try simp -implicitDefEqProofs))
 ((try simp -implicitDefEqProofs);repeat' first|((with_reducible first|apply Ad|apply Ae|apply A8)<;>(intro hc;have hc':=hc;(try simp at hc');simp -implicitDefEqProofs [hc,hc'])))
theorem Rq (n:Int):A3 Tryz.prog 117 [vI n] (vB (acB n)):=by
 unfold acB
 (refine A3.of_code mix Tryz.call117 k_117 (by simp) (fun hB=>?_);(try simp at hB);(try simp -implicitDefEqProofs))
 ((try simp -implicitDefEqProofs);repeat' first|((with_reducible first|apply Ad|apply Ae|apply A8)<;>(intro hc;have hc':=hc;(try simp at hc');simp -implicitDefEqProofs [hc,hc'])))
def B5 (k:Int):Int:=if (3≤k∧k≤6)∨k=20 then 1 else if 7≤k∧k≤19 then 2 else 0
def kdB (k:Int):Bool:=decide (1≤k)&&decide (k≤22)
theorem A1j (k:Int):A3 Tryz.prog 170 [vI k] (vI (B5 k)):=by
 generalize hR:vI (B5 k)=R
 unfold B5 at hR
 (refine A3.of_code mix Tryz.call170 k_170 (by simp) (fun hB=>?_);(try simp at hB);(try simp -implicitDefEqProofs))
 ((try simp -implicitDefEqProofs);repeat' first|((with_reducible first|apply Ad|apply Ae|apply A8)<;>(intro hc;have hc':=hc;(try simp at hc');simp -implicitDefEqProofs [hc,hc'])))
 all_goals (subst hR;congr 2;split<;>(try split)<;>(try simp_all)<;>omega)
theorem Yn (k:Int):A3 Tryz.prog 155 [vI k] (vI (if kdB k=true then B5 k else -1)):=by
 generalize hR:vI (if kdB k=true then B5 k else -1)=R
 unfold B5 kdB at hR
 (refine A3.of_code mix Tryz.call155 k_155 (by simp) (fun hB=>?_);(try simp at hB);(try simp -implicitDefEqProofs))
 ((try simp -implicitDefEqProofs);repeat' first|((with_reducible first|apply Ad|apply Ae|apply A8)<;>(intro hc;have hc':=hc;(try simp at hc');simp -implicitDefEqProofs [hc,hc'])))
 all_goals (subst hR;congr 2;simp only [Bool.and_eq_true,decide_eq_true_eq];split<;>(try split)<;>(try split)<;>(try simp_all)<;>omega)
namespace Xp
mutual
def dep:Xp→Nat
 | .mk _ _ _ _ _ xs=>deps xs+1
def deps:List Xp→Nat
 | []=>0
 | x::ys=>max (dep x) (deps ys)
end
theorem dep_cnt : ∀x:Xp,dep x≤cnt x:=by
 refine ind fun k v f t n xs ih=>?_
 rw [dep,cnt]
 have : ∀l:List Xp,(∀a∈l,dep a≤cnt a)→deps l≤cnts l:=by
  intro l
  induction l with
  | nil=>intro _;simp [deps]
  | cons x l ih2=>
   intro h
   have h1:=h x (by simp)
   have h2:=ih2 fun a ha=>h a (by simp [ha])
   simp only [deps,cnts]
   omega
 have:=this xs ih
 omega
theorem deps_append (a b:List Xp):deps (a++b)=max (deps a) (deps b):=by
 induction a with
 | nil=>simp [deps]
 | cons x a ih=>simp only [List.cons_append,deps,ih];omega
end Xp
theorem Yo : ∀(x:Xp),x.cnt≤100000→A3 Tryz.prog 137 [x.v] (vI x.dep):=by
 refine Xp.ind fun kd vl fr to nm xs ih hcnt=>?_
 rw [Xp.cnt] at hcnt
 have hal:=Xp.cnts_len xs
 have hdc:Xp.deps xs≤100000:=by
  have:=Xp.dep_cnt (.mk kd vl fr to nm xs)
  rw [Xp.dep,Xp.cnt] at this
  omega
 rw [Xp.v,Xp.c_mk,Xp.dep]
 (refine A3.of_code mix Tryz.call137 k_137 (by simp) (fun hB=>?_);(try simp at hB);(try simp -implicitDefEqProofs))
 refine A6 (X:=Nat) (fun k=>k≤xs.length) (fun k=>[(3,vI (Xp.deps (xs.take k))),(7,Xp.l xs),(8,vI xs.length),(9,vI k)])
  (fun k=>⟨[],[]⟩) (fun k=>xs.length-k) 0 (by omega) (by simp [Xp.deps]) ?_
 rintro k hk hbd
 rcases Nat.lt_or_ge k xs.length with h|h
 ·have hx:xs[k]?=some xs[k]:=by simp [h]
  have hrec:=ih xs[k] (List.getElem_mem h) (by have:=Xp.cnts_mem (List.getElem_mem h);omega)
  have e3:IntKind.i64.wrap ((k:Int)+1)=(k:Int)+1:=wrap64 (by omega) (by omega)
  have hrv:Xp.deps (xs.take (k+1))=max (Xp.deps (xs.take k)) xs[k].dep:=by rw [Ah hx,Xp.deps_append];simp [Xp.deps]
  have hlc:=C1 xs[k]
  have htc:=Bf xs[k]
  ((try simp at hrec);(try simp -implicitDefEqProofs [h,e3,hlc,htc]);repeat' first|(with_reducible apply A0<;>first|(simp only [eras,era,A1];first|with_reducible assumption)|(simp -implicitDefEqProofs [h,e3,hlc,htc])))
  exact⟨k+1,by omega,by omega,by rw [hrv];omega,by push_cast;rfl⟩
 ·have:k=xs.length:=by omega
  subst this
  have e3:IntKind.i64.wrap ((Xp.deps xs:Int)+1)=(Xp.deps xs:Int)+1:=wrap64 (by omega) (by omega)
  (try simp -implicitDefEqProofs [e3])
theorem Vj : ∀(x:Xp),x.cnt≤100000→A3 Tryz.prog 118 [x.v] (vI x.dep):=by
 refine Xp.ind fun kd vl fr to nm xs ih hcnt=>?_
 rw [Xp.cnt] at hcnt
 have hal:=Xp.cnts_len xs
 have hdc:Xp.deps xs≤100000:=by
  have:=Xp.dep_cnt (.mk kd vl fr to nm xs)
  rw [Xp.dep,Xp.cnt] at this
  omega
 rw [Xp.v,Xp.c_mk,Xp.dep]
 (refine A3.of_code mix Tryz.call118 k_118 (by simp) (fun hB=>?_);(try simp at hB);(try simp -implicitDefEqProofs))
 refine A6 (X:=Nat) (fun k=>k≤xs.length) (fun k=>[(1,.ptr 0 0),(3,vI (Xp.deps (xs.take k))),(4,vI k)])
  (fun k=>⟨[.cells [vI kd,vI vl,vI fr,vI to,vS nm,Xp.l xs]],[]⟩) (fun k=>xs.length-k) 0 (by omega) (by simp [Xp.deps]) ?_
 rintro k hk hbd
 rcases Nat.lt_or_ge k xs.length with h|h
 ·have hx:xs[k]?=some xs[k]:=by simp [h]
  have hrec:=ih xs[k] (List.getElem_mem h) (by have:=Xp.cnts_mem (List.getElem_mem h);omega)
  have e3:IntKind.i64.wrap ((k:Int)+1)=(k:Int)+1:=wrap64 (by omega) (by omega)
  have hrv:Xp.deps (xs.take (k+1))=max (Xp.deps (xs.take k)) xs[k].dep:=by rw [Ah hx,Xp.deps_append];simp [Xp.deps]
  have hlc:=C1 xs[k]
  have htc:=Bf xs[k]
  ((try simp at hrec);(try simp -implicitDefEqProofs [h,e3,hlc,htc]);repeat' first|(with_reducible apply A0<;>first|(simp only [eras,era,A1];first|with_reducible assumption)|(simp -implicitDefEqProofs [h,e3,hlc,htc])))
  exact⟨k+1,by omega,by omega,by rw [hrv];omega,by push_cast;rfl⟩
 ·have:k=xs.length:=by omega
  subst this
  have e3:IntKind.i64.wrap ((Xp.deps xs:Int)+1)=(Xp.deps xs:Int)+1:=wrap64 (by omega) (by omega)
  (try simp -implicitDefEqProofs [e3])

theorem A1k : ∀(x:Xp) (m:Nat),1≤m→m≤1000→A3 Tryz.prog 24 [x.v,vI m] (vI (min x.cnt m:Nat)):=by
 refine Xp.ind fun kd vl fr to nm xs ih m hm1 hm2=>?_
 have e1m:min 1 m=1:=by omega
 rw [Xp.v,Xp.c_mk,Xp.cnt]
 (refine A3.of_code mix Tryz.call24 k_24 (by simp) (fun hB=>?_);(try simp at hB);(try simp -implicitDefEqProofs))
 refine A6 (X:=Nat) (fun k=>k≤xs.length∧k≤m) (fun k=>[(1,vI m),(2,.ptr 0 0),(5,vI (min (1+Xp.cnts (xs.take k)) m:Nat)),(6,vI k)])
  (fun k=>⟨[.cells [vI kd,vI vl,vI fr,vI to,vS nm,Xp.l xs]],[]⟩) (fun k=>xs.length-k) 0 (by omega) (by simp [Xp.cnts,e1m]) ?_
 rintro k ⟨hk,hkm⟩ hbd
 have hlk:=Xp.cnts_len (xs.take k)
 rw [List.length_take] at hlk
 generalize hn:min (1+Xp.cnts (xs.take k)) m=n at *
 rcases Nat.lt_or_ge k xs.length with h|h
 ·have hx:xs[k]?=some xs[k]:=by simp [h]
  have hsum:Xp.cnts xs=Xp.cnts (xs.take k)+(xs[k].cnt+Xp.cnts (xs.drop (k+1))):=by
   conv=>lhs;rw [←List.take_append_drop k xs,Xp.cnts_append,List.drop_eq_getElem_cons h]
   rfl
  by_cases hnm:n<m
  ·have hrec:=ih xs[k] (List.getElem_mem h) (m-n) (by omega) (by omega)
   have e1:IntKind.i64.wrap ((m:Int)-n)=((m-n:Nat):Int):=by rw [wrap64 (by omega) (by omega)];omega
   have e2:IntKind.i64.wrap ((n:Int)+((min xs[k].cnt (m-n):Nat):Int))=(n:Int)+((min xs[k].cnt (m-n):Nat):Int):=wrap64 (by omega) (by omega)
   have e3:IntKind.i64.wrap ((k:Int)+1)=(k:Int)+1:=wrap64 (by omega) (by omega)
   have hrv:Xp.cnts (xs.take (k+1))=Xp.cnts (xs.take k)+xs[k].cnt:=by rw [Ah hx,Xp.cnts_append];simp [Xp.cnts]
   have hlc:=C1 xs[k]
   have htc:=Bf xs[k]
   have hs:min (1+Xp.cnts (xs.take (k+1))) m=n+min xs[k].cnt (m-n):=by rw [hrv];omega
   generalize min xs[k].cnt (m-n)=z at *
   ((try simp at hrec);(try simp -implicitDefEqProofs [h,hnm,e1,e2,e3,hlc,htc]);repeat' first|(with_reducible apply A0<;>first|(simp only [eras,era,A1];first|with_reducible assumption)|(simp -implicitDefEqProofs [h,hnm,e1,e2,e3,hlc,htc])))
   exact⟨k+1,⟨by omega,by omega⟩,by omega,by rw [hs];push_cast;rfl,by push_cast;rfl⟩
  ·have hfin:min (1+Xp.cnts xs) m=n:=by omega
   rw [hfin]
   (try simp -implicitDefEqProofs [h,hnm])
 ·have:k=xs.length:=by omega
  subst this
  rw [List.take_length] at hn
  rw [hn]
  (try simp -implicitDefEqProofs [hn])
end Go.Proofs.YtmlpmdccfmmpoaaGreatDoor
end
