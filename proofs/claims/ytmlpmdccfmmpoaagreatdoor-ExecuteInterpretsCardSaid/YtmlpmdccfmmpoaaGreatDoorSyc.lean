/- Chapter 32: proper expressions. -/
import Derived.Test.YtmlpmdccfmmpoaaGreatDoorXp
set_option linter.unusedSimpArgs false
set_option linter.unusedVariables false
set_option maxHeartbeats 4000000
set_option maxRecDepth 8000
section
section
set_option linter.unusedSimpArgs false
set_option linter.unusedVariables false
set_option maxHeartbeats 2000000
set_option maxRecDepth 8000
namespace Go.Proofs.YtmlpmdccfmmpoaaGreatDoor
open E

theorem A7h (l:List (List UInt8)) (s:List UInt8):A4 Tryz.prog 121 [vSL l,vS s] (vB (inS l s)):=by
 generalize hR:vB (inS l s)=R
 (refine A4.of_code mix Tryz.call121 k_121 (by simp) (fun hB=>?_);(try simp at hB);(try simp -implicitDefEqProofs))
 refine A9 (X:=Nat) (fun k=>k≤l.length∧∀y∈l.take k,¬y=s) (fun k=>[(0,vSL l),(1,vS s),(5,vI k)]) (fun _=>St0) (fun k=>l.length-k) 0 ⟨by simp,by simp⟩ (by simp) ?_
 rintro k ⟨hk,hn⟩ hbd
 rcases Nat.lt_or_ge k l.length with hlt|hge
 ·have hx:l[k]?=some l[k]:=by simp [hlt]
  have e3:IntKind.i64.wrap ((k:Int)+1)=(k:Int)+1:=wrap64 (by omega) (by simp [maxLen] at hB;omega)
  by_cases hq:l[k]=s
  ·have hb:inS l s=true:=by simp only [inS,List.any_eq_true];exact⟨l[k],List.getElem_mem hlt,by simpa using hq⟩
   rw [hb] at hR
   subst hR
   have hq':(l[k]==s)=true:=by simpa using hq
   (try simp -implicitDefEqProofs [hlt,hq',e3])
  ·have hq':(l[k]==s)=false:=by simpa using hq
   (try simp -implicitDefEqProofs [hlt,hq',e3])
   refine⟨k+1,⟨by omega,fun y hy=>?_⟩,by omega,by push_cast;rfl⟩
   rw [Ae hx] at hy
   rcases List.mem_append.1 hy with h1|h1
   ·exact hn y h1
   ·simp at h1;subst h1;exact hq
 ·have:k=l.length:=by omega
  subst this
  rw [List.take_length] at hn
  have hb:inS l s=false:=by
   cases h:inS l s
   ·rfl
   ·simp only [inS,List.any_eq_true,decide_eq_true_eq] at h
    obtain⟨y,h1,h2⟩:=h
    exact absurd h2 (hn y h1)
  rw [hb] at hR
  subst hR
  (try simp -implicitDefEqProofs)
theorem A7i (s:List UInt8):A4 Tryz.prog 154 [vS s] (vB (kwB s)):=by
 have h:=A7h kwL s
 have e:inS kwL s=kwB s:=by
  unfold inS kwB
  generalize kwL=l
  induction l with
  | nil=>rfl
  | cons x l ih=>
   rw [List.any_cons,ih,List.contains_cons]
   congr 1
   by_cases hx:x=s
   ·subst hx;simp
   ·have : ¬s=x:=fun h=>hx h.symm
    simp [hx,this]
 rw [e] at h
 unfold kwL at h
 simp only [vSL,List.map] at h
 generalize kwB s=b at *
 (refine A4.of_code mix Tryz.call154 k_154 (by simp) (fun hB=>?_);(try simp at hB);(try simp -implicitDefEqProofs))
 ((try simp at h);(try simp -implicitDefEqProofs);repeat' first|(with_reducible apply A0<;>first|(simp only [eras,era,A1];first|with_reducible assumption)|(simp -implicitDefEqProofs)))
theorem Of (s:List UInt8) (hs:s.length≤maxLen):A4 Tryz.prog 116 [vS s] (vB (Dn s)):=by
 have hkw:=A7i s
 unfold Dn
 generalize kwB s=kw at *
 generalize hR:vB (nfB s && !kw)=R
 have hrun:=L2 Gi s
 have hhd:Ai s 0=Dr s∨s=[]:=by rcases s with _|⟨c,s⟩;exact .inr rfl;exact .inl rfl
 have hrl:=J2 Gi s
 (refine A4.of_code mix Tryz.call116 k_116 (by simp) (fun hB=>?_);(try simp at hB);(try simp -implicitDefEqProofs))
 refine A9 (X:=Nat) (fun k=>k≤s.length∧(∀j:Nat,j<k→Gi (Ai s j)=true)∧(1≤k→Ew (Ai s 0)=true)) (fun k=>[(0,vS s),(3,vI k)]) (fun _=>St0) (fun k=>s.length-k) 0 ⟨by simp,fun j hj=>by omega,fun h=>by omega⟩ (by simp) ?_
 rintro k ⟨hk,hn,hl⟩ hbd
 clear hbd
 rcases Nat.lt_or_ge k s.length with h|h
 ·have e3:IntKind.i64.wrap ((k:Int)+1)=(k:Int)+1:=wrap64 (by omega) (by simp [maxLen] at hs;omega)
  have hne : ¬s=[]:=by rintro rfl;simp at h
  have hhd:=hhd.resolve_right hne
  by_cases hk0:k=0
  ·subst hk0
   have hc0:(((0:Nat):Int)==0)=true:=rfl
   have hb:Ai s ((0:Nat):Int)=Ai s 0:=rfl
   by_cases c1:97≤Ai s 0
   ·by_cases c2:Ai s 0≤122
    ·(try simp -implicitDefEqProofs [h,e3,c1,c2])
     refine⟨1,⟨by omega,fun j hj=>?_,fun _=>?_⟩,by omega,rfl⟩
     ·have:j=0:=by omega
      subst this
      rw [hb];simp [Gi,Ew,c1,c2]
     ·simp [Ew,c1,c2]
    ·have hf:nfB s=false:=by simp [nfB,←hhd,Ew,c2]
     rw [hf] at hR
     subst hR
     (try simp -implicitDefEqProofs [h,e3,c1,c2])
   ·have hf:nfB s=false:=by simp [nfB,←hhd,Ew,c1]
    rw [hf] at hR
    subst hR
    (try simp -implicitDefEqProofs [h,e3,c1])
  ·have hk0':((k:Int)==0)=false:=by simp;omega
   have hstep:Gi (Ai s k)=true→∃z':Nat,(z'≤s.length∧(∀j:Nat,j<z'→Gi (Ai s j)=true)∧(1≤z'→Ew (Ai s 0)=true))∧s.length-z'<s.length-k∧(z':Int)=(k:Int)+1:=by
    intro hc
    refine⟨k+1,⟨by omega,fun j hj=>?_,fun _=>hl (by omega)⟩,by omega,by push_cast;rfl⟩
    rcases Nat.lt_or_ge j k with h1|h1
    ·exact hn j h1
    ·have:j=k:=by omega
     subst this;exact hc
   have hout:Gi (Ai s k)=false→nfB s=false:=by
    intro hc
    have:=hrun k hk hn (.inr hc)
    unfold nfB
    rw [this]
    have : ¬k=s.length:=by omega
    simp [this]
   have hcs:Gi (Ai s k)=(Ew (Ai s k)||Ey (Ai s k)||(Ai s k==95)):=rfl
   by_cases c0:Ew (Ai s k)=true
   ·have hstep:=hstep (by rw [hcs,c0];rfl)
    simp only [Ew,Bool.and_eq_true,decide_eq_true_eq] at c0
    obtain⟨c1,c2⟩:=c0
    (try simp -implicitDefEqProofs [h,e3,c1,c2,hk0'])
    exact hstep
   ·by_cases c3:Ey (Ai s k)=true
    ·have hstep:=hstep (by rw [hcs,c3];simp)
     simp only [Ew,Ey,Bool.and_eq_true,decide_eq_true_eq] at c0 c3
     obtain⟨c3,c4⟩:=c3
     have c1 : ¬97≤Ai s k:=by omega
     (try simp -implicitDefEqProofs [h,e3,c1,c3,c4,hk0'])
     exact hstep
    ·by_cases c5:Ai s k=95
     ·have hstep:=hstep (by rw [hcs,c5];rfl)
      have c5':(Ai s k != 95)=false:=by simpa using c5
      have c1 : ¬97≤Ai s k:=by omega
      have c3':48≤Ai s k:=by omega
      have c4 : ¬Ai s k≤57:=by omega
      (try simp -implicitDefEqProofs [h,e3,hk0',c1,c3',c4,c5'])
      exact hstep
     ·have hf:=hout (by rw [hcs];simp [c0,c3,c5])
      rw [hf] at hR
      subst hR
      have c5':(Ai s k != 95)=true:=by simpa using c5
      simp only [Ew,Ey,Bool.and_eq_true,decide_eq_true_eq] at c0 c3
      by_cases c1:97≤Ai s k
      ·have c2 : ¬Ai s k≤122:=fun h=>c0 ⟨c1,h⟩
       have c3':48≤Ai s k:=by omega
       have c4 : ¬Ai s k≤57:=by omega
       (try simp -implicitDefEqProofs [h,e3,c1,c2,c3',c4,c5',hk0'])
      ·by_cases c3':48≤Ai s k
       ·have c4 : ¬Ai s k≤57:=fun h=>c3 ⟨c3',h⟩
        (try simp -implicitDefEqProofs [h,e3,c1,c3',c4,c5',hk0'])
       ·(try simp -implicitDefEqProofs [h,e3,c1,c3',c5',hk0'])
 ·have hks:k=s.length:=by omega
  have hr:=hrun k hk hn (.inl hks)
  subst hks
  rcases hhd with hhd|rfl
  ·by_cases h1:1≤s.length
   ·have hl:=hl h1
    have h1':decide ((1:Int)≤s.length)=true:=by simp;omega
    have hf:nfB s=decide (s.length≤16):=by simp [nfB,hr,←hhd,hl,h1]
    by_cases h16:s.length≤16
    ·have h16':decide ((s.length:Int)≤16)=true:=by simp;omega
     rw [hf,decide_eq_true h16] at hR
     subst hR
     ((try simp at hkw);(try simp -implicitDefEqProofs [h1',h16']);repeat' first|(with_reducible apply A0<;>first|(simp only [eras,era,A1];first|with_reducible assumption)|(simp -implicitDefEqProofs [h1',h16'])))
    ·have h16':decide ((s.length:Int)≤16)=false:=by simp;omega
     rw [hf,decide_eq_false h16] at hR
     subst hR
     ((try simp at hkw);(try simp -implicitDefEqProofs [h1',h16']);repeat' first|(with_reducible apply A0<;>first|(simp only [eras,era,A1];first|with_reducible assumption)|(simp -implicitDefEqProofs [h1',h16'])))
   ·have h1':decide ((1:Int)≤s.length)=false:=by simp;omega
    have hf:nfB s=false:=by simp [nfB,h1]
    rw [hf] at hR
    subst hR
    ((try simp at hkw);(try simp -implicitDefEqProofs [h1']);repeat' first|(with_reducible apply A0<;>first|(simp only [eras,era,A1];first|with_reducible assumption)|(simp -implicitDefEqProofs [h1'])))
  ·have hf:nfB []=false:=rfl
   rw [hf] at hR
   subst hR
   ((try simp at hkw);(try simp -implicitDefEqProofs);repeat' first|(with_reducible apply A0<;>first|(simp only [eras,era,A1];first|with_reducible assumption)|(simp -implicitDefEqProofs)))
end Go.Proofs.YtmlpmdccfmmpoaaGreatDoor
end

/- Chapter 32: accounts, numbers of operands, depth. -/
section
set_option linter.unusedSimpArgs false
set_option linter.unusedVariables false
set_option maxHeartbeats 2000000
set_option maxRecDepth 8000
namespace Go.Proofs.YtmlpmdccfmmpoaaGreatDoor
open E

def acB (n:Int):Bool:=decide (1≤n)&&decide (n≤99999)
theorem A1x (n:Int):A4 Tryz.prog 94 [vI n] (vB (acB n)):=by
 unfold acB
 (refine A4.of_code mix Tryz.call94 k_94 (by simp) (fun hB=>?_);(try simp at hB);(try simp -implicitDefEqProofs))
 ((try simp -implicitDefEqProofs);repeat' first|((with_reducible first|apply A7|apply A8|apply A3)<;>(intro hc;have hc':=hc;(try simp at hc');simp -implicitDefEqProofs [hc,hc'])))
theorem Ux (n:Int):A4 Tryz.prog 117 [vI n] (vB (acB n)):=by
 unfold acB
 (refine A4.of_code mix Tryz.call117 k_117 (by simp) (fun hB=>?_);(try simp at hB);(try simp -implicitDefEqProofs))
 ((try simp -implicitDefEqProofs);repeat' first|((with_reducible first|apply A7|apply A8|apply A3)<;>(intro hc;have hc':=hc;(try simp at hc');simp -implicitDefEqProofs [hc,hc'])))
def Bi (k:Int):Int:=if (3≤k∧k≤6)∨k=20 then 1 else if 7≤k∧k≤19 then 2 else 0
def kdB (k:Int):Bool:=decide (1≤k)&&decide (k≤22)
theorem A4y (k:Int):A4 Tryz.prog 170 [vI k] (vI (Bi k)):=by
 generalize hR:vI (Bi k)=R
 unfold Bi at hR
 (refine A4.of_code mix Tryz.call170 k_170 (by simp) (fun hB=>?_);(try simp at hB);(try simp -implicitDefEqProofs))
 ((try simp -implicitDefEqProofs);repeat' first|((with_reducible first|apply A7|apply A8|apply A3)<;>(intro hc;have hc':=hc;(try simp at hc');simp -implicitDefEqProofs [hc,hc'])))
 all_goals (subst hR;congr 2;split<;>(try split)<;>(try simp_all)<;>omega)
theorem A1y (k:Int):A4 Tryz.prog 155 [vI k] (vI (if kdB k=true then Bi k else -1)):=by
 generalize hR:vI (if kdB k=true then Bi k else -1)=R
 unfold Bi kdB at hR
 (refine A4.of_code mix Tryz.call155 k_155 (by simp) (fun hB=>?_);(try simp at hB);(try simp -implicitDefEqProofs))
 ((try simp -implicitDefEqProofs);repeat' first|((with_reducible first|apply A7|apply A8|apply A3)<;>(intro hc;have hc':=hc;(try simp at hc');simp -implicitDefEqProofs [hc,hc'])))
 all_goals (subst hR;congr 2;simp only [Bool.and_eq_true,decide_eq_true_eq];split<;>(try split)<;>(try split)<;>(try simp_all)<;>omega)
namespace Xp
mutual
def dep:Xp→Nat
 | .mk _ _ _ _ _ xs=>deps xs+1
def deps:List Xp→Nat
 | []=>0
 | x::ys=>max (dep x) (deps ys)
end
theorem dep_cnt : ∀x:Xp,dep x≤cnt x:=by
 refine ind fun k v f t n xs ih=>?_
 rw [dep,cnt]
 have : ∀l:List Xp,(∀a∈l,dep a≤cnt a)→deps l≤cnts l:=by
  intro l
  induction l with
  | nil=>intro _;simp [deps]
  | cons x l ih2=>
   intro h
   have h1:=h x (by simp)
   have h2:=ih2 fun a ha=>h a (by simp [ha])
   simp only [deps,cnts]
   omega
 have:=this xs ih
 omega
theorem deps_append (a b:List Xp):deps (a++b)=max (deps a) (deps b):=by
 induction a with
 | nil=>simp [deps]
 | cons x a ih=>simp only [List.cons_append,deps,ih];omega
end Xp
theorem A1z : ∀(x:Xp),x.cnt≤100000→A4 Tryz.prog 137 [x.v] (vI x.dep):=by
 refine Xp.ind fun kd vl fr to nm xs ih hcnt=>?_
 rw [Xp.cnt] at hcnt
 have hal:=Xp.cnts_len xs
 have hdc:Xp.deps xs≤100000:=by
  have:=Xp.dep_cnt (.mk kd vl fr to nm xs)
  rw [Xp.dep,Xp.cnt] at this
  omega
 rw [Xp.v,Xp.c_mk,Xp.dep]
 (refine A4.of_code mix Tryz.call137 k_137 (by simp) (fun hB=>?_);(try simp at hB);(try simp -implicitDefEqProofs))
 refine A9 (X:=Nat) (fun k=>k≤xs.length) (fun k=>[(3,vI (Xp.deps (xs.take k))),(7,Xp.l xs),(8,vI xs.length),(9,vI k)])
  (fun k=>⟨[],[]⟩) (fun k=>xs.length-k) 0 (by omega) (by simp [Xp.deps]) ?_
 rintro k hk hbd
 rcases Nat.lt_or_ge k xs.length with h|h
 ·have hx:xs[k]?=some xs[k]:=by simp [h]
  have hrec:=ih xs[k] (List.getElem_mem h) (by have:=Xp.cnts_mem (List.getElem_mem h);omega)
  have e3:IntKind.i64.wrap ((k:Int)+1)=(k:Int)+1:=wrap64 (by omega) (by omega)
  have hrv:Xp.deps (xs.take (k+1))=max (Xp.deps (xs.take k)) xs[k].dep:=by rw [Ae hx,Xp.deps_append];simp [Xp.deps]
  have hlc:=D5 xs[k]
  have htc:=C3 xs[k]
  ((try simp at hrec);(try simp -implicitDefEqProofs [h,e3,hlc,htc]);repeat' first|(with_reducible apply A0<;>first|(simp only [eras,era,A1];first|with_reducible assumption)|(simp -implicitDefEqProofs [h,e3,hlc,htc])))
  exact⟨k+1,by omega,by omega,by rw [hrv];omega,by push_cast;rfl⟩
 ·have:k=xs.length:=by omega
  subst this
  have e3:IntKind.i64.wrap ((Xp.deps xs:Int)+1)=(Xp.deps xs:Int)+1:=wrap64 (by omega) (by omega)
  (try simp -implicitDefEqProofs [e3])
theorem Ys : ∀(x:Xp),x.cnt≤100000→A4 Tryz.prog 118 [x.v] (vI x.dep):=by
 refine Xp.ind fun kd vl fr to nm xs ih hcnt=>?_
 rw [Xp.cnt] at hcnt
 have hal:=Xp.cnts_len xs
 have hdc:Xp.deps xs≤100000:=by
  have:=Xp.dep_cnt (.mk kd vl fr to nm xs)
  rw [Xp.dep,Xp.cnt] at this
  omega
 rw [Xp.v,Xp.c_mk,Xp.dep]
 (refine A4.of_code mix Tryz.call118 k_118 (by simp) (fun hB=>?_);(try simp at hB);(try simp -implicitDefEqProofs))
 refine A9 (X:=Nat) (fun k=>k≤xs.length) (fun k=>[(1,.ptr 0 0),(3,vI (Xp.deps (xs.take k))),(4,vI k)])
  (fun k=>⟨[.cells [vI kd,vI vl,vI fr,vI to,vS nm,Xp.l xs]],[]⟩) (fun k=>xs.length-k) 0 (by omega) (by simp [Xp.deps]) ?_
 rintro k hk hbd
 rcases Nat.lt_or_ge k xs.length with h|h
 ·have hx:xs[k]?=some xs[k]:=by simp [h]
  have hrec:=ih xs[k] (List.getElem_mem h) (by have:=Xp.cnts_mem (List.getElem_mem h);omega)
  have e3:IntKind.i64.wrap ((k:Int)+1)=(k:Int)+1:=wrap64 (by omega) (by omega)
  have hrv:Xp.deps (xs.take (k+1))=max (Xp.deps (xs.take k)) xs[k].dep:=by rw [Ae hx,Xp.deps_append];simp [Xp.deps]
  have hlc:=D5 xs[k]
  have htc:=C3 xs[k]
  ((try simp at hrec);(try simp -implicitDefEqProofs [h,e3,hlc,htc]);repeat' first|(with_reducible apply A0<;>first|(simp only [eras,era,A1];first|with_reducible assumption)|(simp -implicitDefEqProofs [h,e3,hlc,htc])))
  exact⟨k+1,by omega,by omega,by rw [hrv];omega,by push_cast;rfl⟩
 ·have:k=xs.length:=by omega
  subst this
  have e3:IntKind.i64.wrap ((Xp.deps xs:Int)+1)=(Xp.deps xs:Int)+1:=wrap64 (by omega) (by omega)
  (try simp -implicitDefEqProofs [e3])

theorem A4z : ∀(x:Xp) (m:Nat),1≤m→m≤1000→A4 Tryz.prog 24 [x.v,vI m] (vI (min x.cnt m:Nat)):=by
 refine Xp.ind fun kd vl fr to nm xs ih m hm1 hm2=>?_
 have e1m:min 1 m=1:=by omega
 rw [Xp.v,Xp.c_mk,Xp.cnt]
 (refine A4.of_code mix Tryz.call24 k_24 (by simp) (fun hB=>?_);(try simp at hB);(try simp -implicitDefEqProofs))
 refine A9 (X:=Nat) (fun k=>k≤xs.length∧k≤m) (fun k=>[(1,vI m),(2,.ptr 0 0),(5,vI (min (1+Xp.cnts (xs.take k)) m:Nat)),(6,vI k)])
  (fun k=>⟨[.cells [vI kd,vI vl,vI fr,vI to,vS nm,Xp.l xs]],[]⟩) (fun k=>xs.length-k) 0 (by omega) (by simp [Xp.cnts,e1m]) ?_
 rintro k ⟨hk,hkm⟩ hbd
 have hlk:=Xp.cnts_len (xs.take k)
 rw [List.length_take] at hlk
 generalize hn:min (1+Xp.cnts (xs.take k)) m=n at *
 rcases Nat.lt_or_ge k xs.length with h|h
 ·have hx:xs[k]?=some xs[k]:=by simp [h]
  have hsum:Xp.cnts xs=Xp.cnts (xs.take k)+(xs[k].cnt+Xp.cnts (xs.drop (k+1))):=by
   conv=>lhs;rw [←List.take_append_drop k xs,Xp.cnts_append,List.drop_eq_getElem_cons h]
   rfl
  by_cases hnm:n<m
  ·have hrec:=ih xs[k] (List.getElem_mem h) (m-n) (by omega) (by omega)
   have e1:IntKind.i64.wrap ((m:Int)-n)=((m-n:Nat):Int):=by rw [wrap64 (by omega) (by omega)];omega
   have e2:IntKind.i64.wrap ((n:Int)+((min xs[k].cnt (m-n):Nat):Int))=(n:Int)+((min xs[k].cnt (m-n):Nat):Int):=wrap64 (by omega) (by omega)
   have e3:IntKind.i64.wrap ((k:Int)+1)=(k:Int)+1:=wrap64 (by omega) (by omega)
   have hrv:Xp.cnts (xs.take (k+1))=Xp.cnts (xs.take k)+xs[k].cnt:=by rw [Ae hx,Xp.cnts_append];simp [Xp.cnts]
   have hlc:=D5 xs[k]
   have htc:=C3 xs[k]
   have hs:min (1+Xp.cnts (xs.take (k+1))) m=n+min xs[k].cnt (m-n):=by rw [hrv];omega
   generalize min xs[k].cnt (m-n)=z at *
   ((try simp at hrec);(try simp -implicitDefEqProofs [h,hnm,e1,e2,e3,hlc,htc]);repeat' first|(with_reducible apply A0<;>first|(simp only [eras,era,A1];first|with_reducible assumption)|(simp -implicitDefEqProofs [h,hnm,e1,e2,e3,hlc,htc])))
   exact⟨k+1,⟨by omega,by omega⟩,by omega,by rw [hs];push_cast;rfl,by push_cast;rfl⟩
  ·have hfin:min (1+Xp.cnts xs) m=n:=by omega
   rw [hfin]
   (try simp -implicitDefEqProofs [h,hnm])
 ·have:k=xs.length:=by omega
  subst this
  rw [List.take_length] at hn
  rw [hn]
  (try simp -implicitDefEqProofs [hn])
end Go.Proofs.YtmlpmdccfmmpoaaGreatDoor
end
end
namespace Go.Proofs.YtmlpmdccfmmpoaaGreatDoor
open E
structure Stm where
 kind:Int
 acc:Int
 name:List UInt8
 ex:Xp
def Stm.c (x:Stm):List T:=.int .i64 x.kind::.int .i64 x.acc::.str x.name::x.ex.c
abbrev Stm.v (x:Stm):V:=.agg (x.c.map .t)
abbrev Stm.l (l:List Stm):V:=.t (.sl (l.map Stm.c))
theorem Js (x:Stm):x.c.length=9:=by simp [Stm.c,D5]
theorem J3 (x:Stm):List.take 9 (x.c.map V.t)=x.c.map V.t:=List.take_of_length_le (by simp [Js])
structure Rul where
 name:List UInt8
 pair:Bool
 stmts:List Stm
 to:Int
def Rul.c (x:Rul):List T:=[.str x.name,.bool x.pair,.sl (x.stmts.map Stm.c),.int .i64 x.to]
abbrev Rul.v (x:Rul):V:=.agg (x.c.map .t)
abbrev Rul.l (l:List Rul):V:=.t (.sl (l.map Rul.c))
theorem Og (x:Rul):x.c.length=4:=by simp [Rul.c]
theorem Oh (x:Rul):List.take 4 (x.c.map V.t)=x.c.map V.t:=List.take_of_length_le (by simp [Og])

theorem A50 (S:St) (hS:OkS S) (l:List Xp) (f:Nat) (caps:List V) (hcp:okNs S.boxes.length S.toks.length caps=true) (q:Xp→Bool) (h : ∀x∈l,FnS Tryz.prog f (Xp.v x::caps) S (.t (.bool (q x))) S) :
  FnS Tryz.prog 207 [Xp.l l,.fn (.func f) caps] S (.t (.int .i64 (J0 q l))) S:=by
 (refine FnS.of_code mix Tryz.call207 k_207 (by simp) (fun hB=>?_);(try simp at hB);(try simp -implicitDefEqProofs))
 refine A9 (X:=Nat) (fun k=>k≤l.length∧∀y∈l.take k,q y=false) (fun k=>[(0,Xp.l l),(1,.fn (.func f) caps),(7,vI l.length),(8,vI k)]) (fun _=>S) (fun k=>l.length-k) 0 ⟨by simp,by simp⟩ ?_ ?_
 ·have:=hS;simp [OkS] at this;simp [this,hcp]
 rintro k ⟨hk,hn⟩ hbd
 rcases Nat.lt_or_ge k l.length with hlt|hge
 ·have hx:l[k]?=some l[k]:=by simp [hlt]
  have hc:=h l[k] (List.getElem_mem hlt)
  have e3:IntKind.i64.wrap ((k:Int)+1)=(k:Int)+1:=wrap64 (by omega) (by simp [maxLen] at hB;omega)
  have hlc:=D5 l[k]
  have htc:=C3 l[k]
  cases hq:q l[k]
  ·rw [hq] at hc
   (try simp -implicitDefEqProofs [hlt,e3,hlc,htc])
   refine Ac hc ?_
   (try simp -implicitDefEqProofs [hlt,e3])
   have hS':=hS
   simp [OkS] at hS'
   refine⟨k+1,⟨by omega,fun y hy=>?_⟩,by omega,?_⟩
   ·rw [Ae hx] at hy
    rcases List.mem_append.1 hy with h1|h1
    ·exact hn y h1
    ·simp at h1;subst h1;exact hq
   ·simp [hS',hcp];try omega
  ·rw [hq] at hc
   rw [J1 hx hn hq]
   (try simp -implicitDefEqProofs [hlt,e3,hlc,htc])
   refine Ac hc ?_
   have hS':=hS
   simp [OkS] at hS'
   (try simp -implicitDefEqProofs [hlt,e3,hS'])
 ·have:k=l.length:=by omega
  subst this
  rw [List.take_length] at hn
  rw [Gx hn]
  have hS':=hS
  simp [OkS] at hS'
  (try simp -implicitDefEqProofs [hS'])
theorem A51 (S:St) (hS:OkS S) (l:List Xp) (f:Nat) (caps:List V) (hcp:okNs S.boxes.length S.toks.length caps=true) (q:Xp→Bool) (h : ∀x∈l,FnS Tryz.prog f (Xp.v x::caps) S (.t (.bool (q x))) S) :
  FnS Tryz.prog 171 [Xp.l l,.fn (.func f) caps] S (.t (.bool (l.any q))) S:=by
 have hi:=A50 S hS l f caps hcp q h
 rw [←Gy]
 generalize J0 q l=r at *
 (refine FnS.of_code mix Tryz.call171 k_171 (by simp) (fun hB=>?_);(try simp at hB);(try simp -implicitDefEqProofs))
 refine Ac hi ?_
 have hS':=hS
 simp [OkS] at hS'
 (try simp -implicitDefEqProofs [hS'])

theorem A52 (S:St) (hS:OkS S) (l:List Stm) (f:Nat) (caps:List V) (hcp:okNs S.boxes.length S.toks.length caps=true) (q:Stm→Bool) (h : ∀x∈l,FnS Tryz.prog f (Stm.v x::caps) S (.t (.bool (q x))) S) :
  FnS Tryz.prog 136 [Stm.l l,.fn (.func f) caps] S (.t (.int .i64 (J0 q l))) S:=by
 (refine FnS.of_code mix Tryz.call136 k_136 (by simp) (fun hB=>?_);(try simp at hB);(try simp -implicitDefEqProofs))
 refine A9 (X:=Nat) (fun k=>k≤l.length∧∀y∈l.take k,q y=false) (fun k=>[(0,Stm.l l),(1,.fn (.func f) caps),(7,vI l.length),(8,vI k)]) (fun _=>S) (fun k=>l.length-k) 0 ⟨by simp,by simp⟩ ?_ ?_
 ·have:=hS;simp [OkS] at this;simp [this,hcp]
 rintro k ⟨hk,hn⟩ hbd
 rcases Nat.lt_or_ge k l.length with hlt|hge
 ·have hx:l[k]?=some l[k]:=by simp [hlt]
  have hc:=h l[k] (List.getElem_mem hlt)
  have e3:IntKind.i64.wrap ((k:Int)+1)=(k:Int)+1:=wrap64 (by omega) (by simp [maxLen] at hB;omega)
  have hlc:=Js l[k]
  have htc:=J3 l[k]
  cases hq:q l[k]
  ·rw [hq] at hc
   (try simp -implicitDefEqProofs [hlt,e3,hlc,htc])
   refine Ac hc ?_
   (try simp -implicitDefEqProofs [hlt,e3])
   have hS':=hS
   simp [OkS] at hS'
   refine⟨k+1,⟨by omega,fun y hy=>?_⟩,by omega,?_⟩
   ·rw [Ae hx] at hy
    rcases List.mem_append.1 hy with h1|h1
    ·exact hn y h1
    ·simp at h1;subst h1;exact hq
   ·simp [hS',hcp];try omega
  ·rw [hq] at hc
   rw [J1 hx hn hq]
   (try simp -implicitDefEqProofs [hlt,e3,hlc,htc])
   refine Ac hc ?_
   have hS':=hS
   simp [OkS] at hS'
   (try simp -implicitDefEqProofs [hlt,e3,hS'])
 ·have:k=l.length:=by omega
  subst this
  rw [List.take_length] at hn
  rw [Gx hn]
  have hS':=hS
  simp [OkS] at hS'
  (try simp -implicitDefEqProofs [hS'])
theorem A53 (S:St) (hS:OkS S) (l:List Stm) (f:Nat) (caps:List V) (hcp:okNs S.boxes.length S.toks.length caps=true) (q:Stm→Bool) (h : ∀x∈l,FnS Tryz.prog f (Stm.v x::caps) S (.t (.bool (q x))) S) :
  FnS Tryz.prog 95 [Stm.l l,.fn (.func f) caps] S (.t (.bool (l.any q))) S:=by
 have hi:=A52 S hS l f caps hcp q h
 rw [←Gy]
 generalize J0 q l=r at *
 (refine FnS.of_code mix Tryz.call95 k_95 (by simp) (fun hB=>?_);(try simp at hB);(try simp -implicitDefEqProofs))
 refine Ac hi ?_
 have hS':=hS
 simp [OkS] at hS'
 (try simp -implicitDefEqProofs [hS'])
def fldB (k v f t:Int) (n:List UInt8):Bool:=
 if k=1 then decide (0≤v)&&decide (v≤1000000000000)&&(f==0)&&(t==0)&&n.isEmpty else
 if k=2 then Dn n&&(v==0)&&(f==0)&&(t==0) else
 if k=20 then decide (1≤v)&&decide (v≤1000000000000)&&(f==0)&&(t==0)&&n.isEmpty else
 if k=21∨k=22 then acB f&&acB t&&(v==0)&&n.isEmpty else
 (v==0)&&(f==0)&&(t==0)&&n.isEmpty
def Gz (k v f t:Int) (n:List UInt8) (len:Nat):Bool:=kdB k&&((len:Int)==Bi k)&&fldB k v f t n
namespace Xp
mutual
def prop:Xp→Bool
 | .mk k v f t n xs=>Gz k v f t n xs.length&&props xs
def props:List Xp→Bool
 | []=>true
 | x::ys=>prop x&&props ys
end
theorem props_all (l:List Xp):props l = !l.any fun x=>!prop x:=by
 induction l with
 | nil=>rfl
 | cons x l ih=>rw [props,ih];simp
end Xp
theorem A20 (x:Xp) (h:A4 Tryz.prog 138 [x.v] (vB x.prop)):A4 Tryz.prog 172 [x.v] (vB (!x.prop)):=by
 generalize x.prop=b at *
 have hlc:=D5 x
 have htc:=C3 x
 (refine A4.of_code mix Tryz.call172 k_172 (by simp) (fun hB=>?_);(try simp at hB);(try simp -implicitDefEqProofs))
 ((try simp at h);(try simp -implicitDefEqProofs [hlc,htc]);repeat' first|(with_reducible apply A0<;>first|(simp only [eras,era,A1];first|with_reducible assumption)|(simp -implicitDefEqProofs [hlc,htc])))
theorem w_proper : ∀(x:Xp),A4 Tryz.prog 138 [x.v] (vB x.prop):=by
 refine Xp.ind fun kd vl fr to nm xs ih=>?_
 have hcon:=A51 St0 A1q xs 172 [] rfl (fun x=>!x.prop) (fun x hx=>A20 x (ih x hx))
 rw [Xp.prop,Xp.props_all]
 generalize xs.any (fun x=>!x.prop)=anyb at *
 have hcon':A4 Tryz.prog 171 [Xp.l xs,.fn (.func 172) []] (vB anyb):=hcon
 have hargs:=A4y kd
 have hnm:=Oe nm
 have ha1:=A1x fr
 have ha2:=A1x to
 rw [Xp.v,Xp.c_mk]
 generalize hR:vB (Gz kd vl fr to nm xs.length && !anyb)=R
 unfold Gz fldB at hR
 generalize Dn nm=nb at *
 generalize acB fr=fb at *
 generalize acB to=tb at *
 have hkd:kdB kd=(decide (1≤kd)&&decide (kd≤22)):=rfl
 have hcases:kd=1∨kd=2∨kd=20∨kd=21∨kd=22∨((kd==1)=false∧(kd==2)=false∧(kd==20)=false∧(kd==21)=false∧(kd==22)=false):=by
  simp only [beq_eq_false_iff_ne,ne_eq];omega
 by_cases hsh:(kdB kd&&((xs.length:Int)==Bi kd))=true
 ·rw [Bool.and_eq_true] at hsh
  obtain⟨hk,hlen'⟩:=hsh
  rw [hk,hlen'] at hR
  rw [hkd,Bool.and_eq_true] at hk
  have k1:1≤kd:=of_decide_eq_true hk.1
  have k2:kd≤22:=of_decide_eq_true hk.2
  clear hk hkd
  rcases hcases with rfl|rfl|rfl|rfl|rfl|⟨n1,n2,n3,n4,n5⟩
  ·(refine A4.of_code mix Tryz.call138 k_138 (by simp) (fun hB=>?_);(try simp at hB);(try simp -implicitDefEqProofs))
   ((try simp at hargs hnm ha1 ha2 hcon');(try simp -implicitDefEqProofs [hlen']);repeat' first|((with_reducible first|apply A7|apply A8|apply A3)<;>(intro hc;have hc':=hc;(try simp at hc');simp -implicitDefEqProofs [hc,hc',hlen']))|(with_reducible apply A0<;>first|(simp only [eras,era,A1];first|with_reducible assumption)|(simp -implicitDefEqProofs [hlen'])))
   all_goals (subst hR;simp_all<;>(intros;omega))
  ·(refine A4.of_code mix Tryz.call138 k_138 (by simp) (fun hB=>?_);(try simp at hB);(try simp -implicitDefEqProofs))
   ((try simp at hargs hnm ha1 ha2 hcon');(try simp -implicitDefEqProofs [hlen']);repeat' first|((with_reducible first|apply A7|apply A8|apply A3)<;>(intro hc;have hc':=hc;(try simp at hc');simp -implicitDefEqProofs [hc,hc',hlen']))|(with_reducible apply A0<;>first|(simp only [eras,era,A1];first|with_reducible assumption)|(simp -implicitDefEqProofs [hlen'])))
   all_goals (subst hR;simp_all<;>(intros;omega))
  ·(refine A4.of_code mix Tryz.call138 k_138 (by simp) (fun hB=>?_);(try simp at hB);(try simp -implicitDefEqProofs))
   ((try simp at hargs hnm ha1 ha2 hcon');(try simp -implicitDefEqProofs [hlen']);repeat' first|((with_reducible first|apply A7|apply A8|apply A3)<;>(intro hc;have hc':=hc;(try simp at hc');simp -implicitDefEqProofs [hc,hc',hlen']))|(with_reducible apply A0<;>first|(simp only [eras,era,A1];first|with_reducible assumption)|(simp -implicitDefEqProofs [hlen'])))
   all_goals (subst hR;simp_all<;>(intros;omega))
  ·(refine A4.of_code mix Tryz.call138 k_138 (by simp) (fun hB=>?_);(try simp at hB);(try simp -implicitDefEqProofs))
   ((try simp at hargs hnm ha1 ha2 hcon');(try simp -implicitDefEqProofs [hlen']);repeat' first|((with_reducible first|apply A7|apply A8|apply A3)<;>(intro hc;have hc':=hc;(try simp at hc');simp -implicitDefEqProofs [hc,hc',hlen']))|(with_reducible apply A0<;>first|(simp only [eras,era,A1];first|with_reducible assumption)|(simp -implicitDefEqProofs [hlen'])))
   all_goals (subst hR;simp_all<;>(intros;omega))
  ·(refine A4.of_code mix Tryz.call138 k_138 (by simp) (fun hB=>?_);(try simp at hB);(try simp -implicitDefEqProofs))
   ((try simp at hargs hnm ha1 ha2 hcon');(try simp -implicitDefEqProofs [hlen']);repeat' first|((with_reducible first|apply A7|apply A8|apply A3)<;>(intro hc;have hc':=hc;(try simp at hc');simp -implicitDefEqProofs [hc,hc',hlen']))|(with_reducible apply A0<;>first|(simp only [eras,era,A1];first|with_reducible assumption)|(simp -implicitDefEqProofs [hlen'])))
   all_goals (subst hR;simp_all<;>(intros;omega))
  ·(refine A4.of_code mix Tryz.call138 k_138 (by simp) (fun hB=>?_);(try simp at hB);(try simp -implicitDefEqProofs))
   ((try simp at hargs hnm ha1 ha2 hcon');(try simp -implicitDefEqProofs [hlen',k1,k2,n1,n2,n3,n4,n5]);repeat' first|((with_reducible first|apply A7|apply A8|apply A3)<;>(intro hc;have hc':=hc;(try simp at hc');simp -implicitDefEqProofs [hc,hc',hlen',k1,k2,n1,n2,n3,n4,n5]))|(with_reducible apply A0<;>first|(simp only [eras,era,A1];first|with_reducible assumption)|(simp -implicitDefEqProofs [hlen',k1,k2,n1,n2,n3,n4,n5])))
   all_goals (subst hR;simp_all<;>(intros;omega))
 ·have hf:(kdB kd&&((xs.length:Int)==Bi kd))=false:=by simpa using hsh
  rw [hf] at hR
  simp only [Bool.false_and] at hR
  subst hR
  clear hsh
  rw [hkd] at hf
  rcases hcases with rfl|rfl|rfl|rfl|rfl|⟨n1,n2,n3,n4,n5⟩
  ·have hlen':((xs.length:Int)==Bi 1)=false:=by simpa using hf
   (refine A4.of_code mix Tryz.call138 k_138 (by simp) (fun hB=>?_);(try simp at hB);(try simp -implicitDefEqProofs))
   ((try simp at hargs hnm ha1 ha2 hcon');(try simp -implicitDefEqProofs [hlen']);repeat' first|(with_reducible apply A0<;>first|(simp only [eras,era,A1];first|with_reducible assumption)|(simp -implicitDefEqProofs [hlen'])))
  ·have hlen':((xs.length:Int)==Bi 2)=false:=by simpa using hf
   (refine A4.of_code mix Tryz.call138 k_138 (by simp) (fun hB=>?_);(try simp at hB);(try simp -implicitDefEqProofs))
   ((try simp at hargs hnm ha1 ha2 hcon');(try simp -implicitDefEqProofs [hlen']);repeat' first|(with_reducible apply A0<;>first|(simp only [eras,era,A1];first|with_reducible assumption)|(simp -implicitDefEqProofs [hlen'])))
  ·have hlen':((xs.length:Int)==Bi 20)=false:=by simpa using hf
   (refine A4.of_code mix Tryz.call138 k_138 (by simp) (fun hB=>?_);(try simp at hB);(try simp -implicitDefEqProofs))
   ((try simp at hargs hnm ha1 ha2 hcon');(try simp -implicitDefEqProofs [hlen']);repeat' first|(with_reducible apply A0<;>first|(simp only [eras,era,A1];first|with_reducible assumption)|(simp -implicitDefEqProofs [hlen'])))
  ·have hlen':((xs.length:Int)==Bi 21)=false:=by simpa using hf
   (refine A4.of_code mix Tryz.call138 k_138 (by simp) (fun hB=>?_);(try simp at hB);(try simp -implicitDefEqProofs))
   ((try simp at hargs hnm ha1 ha2 hcon');(try simp -implicitDefEqProofs [hlen']);repeat' first|(with_reducible apply A0<;>first|(simp only [eras,era,A1];first|with_reducible assumption)|(simp -implicitDefEqProofs [hlen'])))
  ·have hlen':((xs.length:Int)==Bi 22)=false:=by simpa using hf
   (refine A4.of_code mix Tryz.call138 k_138 (by simp) (fun hB=>?_);(try simp at hB);(try simp -implicitDefEqProofs))
   ((try simp at hargs hnm ha1 ha2 hcon');(try simp -implicitDefEqProofs [hlen']);repeat' first|(with_reducible apply A0<;>first|(simp only [eras,era,A1];first|with_reducible assumption)|(simp -implicitDefEqProofs [hlen'])))
  ·by_cases k1:1≤kd
   ·by_cases k2:kd≤22
    ·have hlen':((xs.length:Int)==Bi kd)=false:=by simpa [k1,k2] using hf
     (refine A4.of_code mix Tryz.call138 k_138 (by simp) (fun hB=>?_);(try simp at hB);(try simp -implicitDefEqProofs))
     ((try simp at hargs hnm ha1 ha2 hcon');(try simp -implicitDefEqProofs [hlen',k1,k2,n1,n2,n3,n4,n5]);repeat' first|(with_reducible apply A0<;>first|(simp only [eras,era,A1];first|with_reducible assumption)|(simp -implicitDefEqProofs [hlen',k1,k2,n1,n2,n3,n4,n5])))
    ·(refine A4.of_code mix Tryz.call138 k_138 (by simp) (fun hB=>?_);(try simp at hB);(try simp -implicitDefEqProofs))
     ((try simp at hargs hnm ha1 ha2 hcon');(try simp -implicitDefEqProofs [k1,k2,n1,n2,n3,n4,n5]);repeat' first|(with_reducible apply A0<;>first|(simp only [eras,era,A1];first|with_reducible assumption)|(simp -implicitDefEqProofs [k1,k2,n1,n2,n3,n4,n5])))
   ·(refine A4.of_code mix Tryz.call138 k_138 (by simp) (fun hB=>?_);(try simp at hB);(try simp -implicitDefEqProofs))
    ((try simp at hargs hnm ha1 ha2 hcon');(try simp -implicitDefEqProofs [k1,n1,n2,n3,n4,n5]);repeat' first|(with_reducible apply A0<;>first|(simp only [eras,era,A1];first|with_reducible assumption)|(simp -implicitDefEqProofs [k1,n1,n2,n3,n4,n5])))
end Go.Proofs.YtmlpmdccfmmpoaaGreatDoor
