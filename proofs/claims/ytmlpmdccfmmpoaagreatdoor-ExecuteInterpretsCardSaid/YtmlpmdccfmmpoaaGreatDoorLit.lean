/- Chapter 35: results that stay in buffers; items turned; the reference's Valid and Same; the law ExecuteItems. -/
import Derived.Test.YtmlpmdccfmmpoaaGreatDoorRxC
import Derived.Test.YtmlpmdccfmmpoaaGreatDoorInf
import Derived.Test.YtmlpmdccfmmpoaaGreatDoorExV
import Derived.Test.YtmlpmdccfmmpoaaGreatDoorCodeM
import Derived.Test.YtmlpmdccfmmpoaaGreatDoorExM
set_option linter.unusedSimpArgs false
set_option linter.unusedVariables false
set_option maxHeartbeats 4000000
set_option maxRecDepth 8000
namespace Go.Proofs.YtmlpmdccfmmpoaaGreatDoor
open E
def nxS (last:Int) (n:Int) (p:Part):Int:=if last<p.acc∧(n<0∨p.acc<n) then p.acc else n
def nxA (last:Int) (l:List Part):Int:=l.foldl (nxS last) (-1)
theorem Ry {last:Int} {l:List Part} {i:Nat} {x:Part} (h:l[i]?=some x):nxA last (l.take (i+1))=nxS last (nxA last (l.take i)) x:=by
 unfold nxA;rw [Ae h,List.foldl_append];rfl
theorem Rz {last:Int} (h0 : -1≤last) (l:List Part) (ha : ∀p∈l,0≤p.acc) : ∀i,i≤l.length→(nxA last (l.take i) = -1∧∀p∈l.take i,p.acc≤last)∨(last<nxA last (l.take i)∧(∃p∈l.take i,p.acc=nxA last (l.take i))∧∀p∈l.take i,last<p.acc→nxA last (l.take i)≤p.acc)
 | 0,_=>.inl ⟨rfl,by simp⟩
 | i+1,hi=>by
  obtain⟨x,hx⟩:=Ad (show i<l.length by omega)
  have ih:=Rz h0 l ha i (by omega)
  have hxa:=ha x (List.mem_of_getElem? hx)
  rw [Ry hx]
  generalize nxA last (l.take i)=n at *
  rw [Ae hx]
  unfold nxS
  by_cases hc:last<x.acc∧(n<0∨x.acc<n)
  ·rw [if_pos hc]
   refine .inr ⟨hc.1,⟨x,by simp,rfl⟩,fun p hp hpl=>?_⟩
   rcases List.mem_append.1 hp with hp|hp
   ·rcases ih with ⟨e,hb⟩|⟨e1,e2,e3⟩
    ·have:=hb p hp;omega
    ·have:=e3 p hp hpl
     rcases hc.2 with h|h<;>omega
   ·simp at hp;subst hp;exact Int.le_refl _
  ·rw [if_neg hc]
   rcases ih with ⟨e,hb⟩|⟨e1,⟨q,e2,e4⟩,e3⟩
   ·refine .inl ⟨e,fun p hp=>?_⟩
    rcases List.mem_append.1 hp with hp|hp
    ·exact hb p hp
    ·simp at hp;subst hp
     have : ¬last<p.acc:=fun h=>hc ⟨h,.inl (by omega)⟩
     omega
   ·refine .inr ⟨e1,⟨q,by simp [e2],e4⟩,fun p hp hpl=>?_⟩
    rcases List.mem_append.1 hp with hp|hp
    ·exact e3 p hp hpl
    ·simp at hp;subst hp
     have : ¬p.acc<n:=fun h=>hc ⟨hpl,.inr h⟩
     omega
def S4 (l:List Part) (K:List Int):List Part:=(K.filter fun k=>Am l k != 0).map fun k=>⟨k,Am l k⟩
theorem Ub {l:List Part} {i:Nat} {x:Part} (h:l[i]?=some x) (k:Int):Am (l.take (i+1)) k=Am (l.take i) k+(if x.acc=k then x.amt else 0):=by
 unfold Am;rw [Ae h,List.map_append,List.sum_append];simp
theorem K9 {k:Int} : ∀{l:List Part},(∀p∈l,Ah p.amt=true)→-(1000000000000*(l.length:Int))≤Am l k∧Am l k≤1000000000000*(l.length:Int)
 | [],_=>by simp [Am]
 | p::l,h=>by
  have ih:=K9 (k:=k) (l:=l) fun q hq=>h q (by simp [hq])
  have h1:=G4 (h p (by simp))
  rw [M8,List.length_cons]
  push_cast
  split<;>omega
def SM (l:List Part):Prop:=∀(j:Nat) (k:Int),-9000000000000000000≤Am (l.take j) k∧Am (l.take j) k≤9000000000000000000
theorem SM.of {l:List Part} (h : ∀p∈l,Ah p.amt=true) (hl:l.length≤8001):SM l:=fun j k=>by
 have h1:=K9 (k:=k) (l:=l.take j) fun p hp=>h p (List.mem_of_mem_take hp)
 have h2:(l.take j).length≤8001:=by simp;omega
 omega
theorem SM.to {l:List Part} (h : ∀p∈l,Ah p.amt=true) (hl:l.length≤8000) (a:Int) {x:Int} (hx : -8000000000000000≤x∧x≤8000000000000000):SM (l++[⟨a,x⟩]):=fun j k=>by
 rcases Nat.lt_or_ge l.length j with hj|hj
 ·rw [List.take_of_length_le (by simp;omega)]
  have h1:=K9 (k:=k) h
  have h2:Am (l++[⟨a,x⟩]) k=Am l k+(if a=k then x else 0):=by unfold Am;simp
  rw [h2]
  split<;>omega
 ·rw [List.take_append_of_le_length hj]
  exact SM.of h (by omega) j k
theorem A69 {l:List Part} {last:Int} {m:Nat} (h0 : -1≤last) (ha : ∀p∈l,0≤p.acc) (hd : ∀k∈(Ao l).drop m,last<k) (ht : ∀k∈(Ao l).take m,k≤last) (hm:m≤(Ao l).length) :
  (nxA last l = -1∧m=(Ao l).length)∨(0≤nxA last l∧(Ao l)[m]?=some (nxA last l)):=by
 have hs:=Rz h0 l ha l.length (Nat.le_refl _)
 rw [List.take_of_length_le (Nat.le_refl _)] at hs
 have hK:=Co l
 rcases hs with ⟨e,hb⟩|⟨e1,⟨q,e2,e4⟩,e3⟩
 ·refine .inl ⟨e,?_⟩
  rcases Nat.lt_or_ge m (Ao l).length with h|h
  ·have hmem:(Ao l)[m]∈(Ao l).drop m:=by rw [List.drop_eq_getElem_cons h];exact List.mem_cons_self
   have h1:=hd _ hmem
   obtain⟨p,hp,hpe⟩:=Bt.1 (List.getElem_mem h)
   have:=hb p hp
   omega
  ·omega
 ·have hq:nxA last l∈Ao l:=Bt.2 ⟨q,e2,e4⟩
  have hq2:nxA last l∈(Ao l).drop m:=by
   have:=List.take_append_drop m (Ao l)
   rw [←this] at hq
   rcases List.mem_append.1 hq with h|h
   ·have:=ht _ h;omega
   ·exact h
  have h:m<(Ao l).length:=by
   rcases Nat.lt_or_ge m (Ao l).length with h|h
   ·exact h
   ·rw [List.drop_of_length_le h] at hq2;simp at hq2
  refine .inr ⟨by omega,?_⟩
  have hmem:(Ao l)[m]∈(Ao l).drop m:=by rw [List.drop_eq_getElem_cons h];exact List.mem_cons_self
  have h1:=hd _ hmem
  obtain⟨p,hp,hpe⟩:=Bt.1 (List.getElem_mem h)
  have h2:=e3 p hp (by omega)
  rw [List.drop_eq_getElem_cons h] at hq2
  have h3:(Ao l)[m]≤nxA last l:=by
   rcases List.mem_cons.1 hq2 with h|h4
   ·omega
   ·have hKd:=hK.drop (i:=m)
    rw [List.drop_eq_getElem_cons h] at hKd
    have:=(List.pairwise_cons.1 hKd).1 _ h4
    omega
  rw [List.getElem?_eq_getElem h]
  congr 1;omega
def Mo (r:Option (List Part)):V:=match r with
 | some ps=>.tup [.t (.sl (ps.map Part.c)),vI 0]
 | none=>.tup [.t (.sl []),vI 2]
theorem Uc (l:List Part) (ha : ∀p∈l,0≤p.acc∧p.acc≤1000000) (hm:SM l) (hlen:l.length≤8001):A4 Tryz.prog 133 [Part.l l] (Mo (Cw l)):=by
 have hKl:=G9 l
 have hka : ∀k∈Ao l,0≤k∧k≤1000000:=fun k hk=>by obtain⟨p,hp,rfl⟩:=Bt.1 hk;exact ha p hp
 have hKs:=Co l
 have hkey:=fun (last:Int) (m:Nat) (h0 : -1≤last)=>A69 (l:=l) (last:=last) (m:=m) h0 fun p hp=>(ha p hp).1
 generalize hR:Cw l=R
 unfold Cw at hR
 generalize hKK:Ao l=K at *
 (refine A4.of_code mix Tryz.call133 k_133 (by simp) (fun hB=>?_);(try simp at hB);(try simp -implicitDefEqProofs))
 refine Av [(.slot 4,77,2)] (X:=Nat×Int) (fun X=>X.1≤K.length∧(∀k∈K.drop X.1,X.2<k)∧(∀k∈K.take X.1,k≤X.2)∧-1≤X.2∧X.2≤1000000∧∀k∈K.take X.1,Ah (Am l k)=true)
  (fun X=>[(0,Part.l l),(4,.own 0 77 2 ((S4 l (K.take X.1)).map Part.c)),(5,vI X.2)]) (fun X=>⟨[],[(S4 l (K.take X.1)).length]⟩) (fun X=>K.length-X.1+1) (0,-1)
  ⟨by omega,fun k hk=>by have:=hka k (by simpa using hk);omega,by simp,by omega,by omega,by simp⟩ (by simp [S4]) ?_
 rintro ⟨m,last⟩ ⟨hmK,hd,ht,hl0,hl1,hamt⟩ hbd
 simp only [] at hmK hd ht hl0 hl1 hamt
 clear hbd
 have hol:(S4 l (K.take m)).length≤8001:=by
  unfold S4
  rw [List.length_map]
  have h1:=List.length_filter_le (fun k=>Am l k != 0) (K.take m)
  have h2:(K.take m).length≤K.length:=by simp;omega
  omega
 generalize hO:S4 l (K.take m)=O at *
 (try simp -implicitDefEqProofs)
 refine A9 (X:=Nat) (fun i=>i≤l.length) (fun i=>[(0,Part.l l),(4,.own 0 77 2 (O.map Part.c)),(5,vI last),(6,vI (nxA last (l.take i))),(7,vI i)]) (fun _=>⟨[],[O.length]⟩) (fun i=>l.length-i) 0 (by omega) (by simp [nxA]) ?_
 rintro i hi hbd
 clear hbd
 rcases Nat.lt_or_ge i l.length with h|h
 ·obtain⟨x,hx⟩:=Ad h
  have e3:IntKind.i64.wrap ((i:Int)+1)=(i:Int)+1:=wrap64 (by omega) (by omega)
  have hxc:(l.map Part.c)[i]?=some x.c:=by simp [hx]
  have hxc' : ∀h,(l.map Part.c)[i]'h=x.c:=fun h=>by rw [List.getElem?_eq_getElem h] at hxc;exact Option.some.inj hxc
  have hnx:=Ry (last:=last) hx
  have hfin : ∀v:Int,nxA last (l.take (i+1))=v→∃z':Nat,z'≤l.length∧l.length-z'<l.length-i∧nxA last (l.take z')=v∧(z':Int)=(i:Int)+1:=fun v hv=>⟨i+1,by omega,by omega,hv,by push_cast;rfl⟩
  generalize nxA last (l.take i)=n at *
  obtain⟨ac,am⟩:=x
  unfold nxS at hnx
  simp only [] at hnx
  by_cases c1:last<ac
  ·by_cases c2:n<0
   ·rw [if_pos ⟨c1,.inl c2⟩] at hnx
    (try simp -implicitDefEqProofs [h,hxc,hxc',Part.c,c1,c2,e3])
    exact hfin _ hnx
   ·by_cases c3:ac<n
    ·rw [if_pos ⟨c1,.inr c3⟩] at hnx
     (try simp -implicitDefEqProofs [h,hxc,hxc',Part.c,c1,c2,c3,e3])
     exact hfin _ hnx
    ·rw [if_neg (fun h=>h.2.elim c2 c3)] at hnx
     (try simp -implicitDefEqProofs [h,hxc,hxc',Part.c,c1,c2,c3,e3])
     exact hfin _ hnx
  ·rw [if_neg (fun h=>c1 h.1)] at hnx
   (try simp -implicitDefEqProofs [h,hxc,hxc',Part.c,c1,e3])
   exact hfin _ hnx
 have hie:i=l.length:=by omega
 subst hie
 rw [List.take_of_length_le (Nat.le_refl _)]
 rcases hkey last m hl0 hd ht hmK with ⟨e,em⟩|⟨e1,e2⟩
 ·rw [e]
  subst em
  rw [List.take_of_length_le (Nat.le_refl _)] at hamt hO
  rw [if_pos (List.all_eq_true.2 fun k hk=>hamt k hk)] at hR
  have hRO:R=some O:=by rw [←hR,←hO];rfl
  rw [hRO]
  (try simp -implicitDefEqProofs [Mo])
 ·generalize hk:nxA last l=k at *
  have hkm:k∈K:=List.mem_of_getElem? e2
  have hmK2:=A6 e2
  have hkb:=hka k hkm
  have e4 : ¬k<0:=by omega
  have hO2:S4 l (K.take (m+1))=O++(if Am l k=0 then [] else [⟨k,Am l k⟩]):=by
   rw [←hO,Ae e2]
   unfold S4
   rw [List.filter_append,List.map_append]
   congr 1
   by_cases hz:Am l k=0
   ·rw [if_pos hz];simp [hz]
   ·rw [if_neg hz];simp [hz]
  have hnext:Ah (Am l k)=true→((m+1≤K.length∧(∀k'∈K.drop (m+1),k<k')∧(∀k'∈K.take (m+1),k'≤k)∧-1≤k∧k≤1000000∧∀k'∈K.take (m+1),Ah (Am l k')=true)∧K.length-(m+1)<K.length-m):=fun hz=>by
   refine⟨⟨by omega,fun k' hk'=>?_,fun k' hk'=>?_,by omega,by omega,fun k' hk'=>?_⟩,by omega⟩
   ·have hg:=(List.getElem?_eq_some_iff.1 e2).2
    have hKd:=hKs.drop (i:=m)
    rw [List.drop_eq_getElem_cons hmK2,hg] at hKd
    exact (List.pairwise_cons.1 hKd).1 _ hk'
   ·rw [Ae e2] at hk'
    rcases List.mem_append.1 hk' with h1|h1
    ·have h2:=ht _ h1
     have hg:=(List.getElem?_eq_some_iff.1 e2).2
     have hmem:k∈K.drop m:=by rw [List.drop_eq_getElem_cons hmK2,hg];exact List.mem_cons_self
     have:=hd _ hmem
     omega
    ·simp at h1;omega
   ·rw [Ae e2] at hk'
    rcases List.mem_append.1 hk' with h1|h1
    ·exact hamt _ h1
    ·simp at h1;rw [h1];exact hz
  have hbad:Ah (Am l k)=false→R=none:=fun hz=>by
   rw [if_neg (fun h=>by have:=List.all_eq_true.1 h k hkm;rw [hz] at this;cases this)] at hR
   exact hR.symm
  (try simp -implicitDefEqProofs [e4])
  refine A9 (X:=Nat) (fun i=>i≤l.length) (fun i=>[(0,Part.l l),(4,.own 0 77 2 (O.map Part.c)),(6,vI k),(8,vI (Am (l.take i) k)),(9,vI i)]) (fun _=>⟨[],[O.length]⟩) (fun i=>l.length-i) 0 (by omega) (by simp [Am]) ?_
  rintro i hi hbd
  clear hbd
  rcases Nat.lt_or_ge i l.length with h|h
  ·obtain⟨x,hx⟩:=Ad h
   have e3:IntKind.i64.wrap ((i:Int)+1)=(i:Int)+1:=wrap64 (by omega) (by omega)
   have hxc:(l.map Part.c)[i]?=some x.c:=by simp [hx]
   have hxc' : ∀h,(l.map Part.c)[i]'h=x.c:=fun h=>by rw [List.getElem?_eq_getElem h] at hxc;exact Option.some.inj hxc
   have hsn:=Ub hx k
   have hbd:=hm (i+1) k
   have hlt:(l.take (i+1)).length≤8001:=by simp;omega
   have hfin : ∀v:Int,Am (l.take (i+1)) k=v→∃z':Nat,z'≤l.length∧l.length-z'<l.length-i∧Am (l.take z') k=v∧(z':Int)=(i:Int)+1:=fun v hv=>⟨i+1,by omega,by omega,hv,by push_cast;rfl⟩
   generalize Am (l.take i) k=n at *
   generalize Am (l.take (i+1)) k=n' at *
   have hw:IntKind.i64.wrap n'=n':=wrap64 (by omega) (by omega)
   obtain⟨ac,am⟩:=x
   simp only [] at hsn
   by_cases c1:ac=k
   ·rw [if_pos c1] at hsn
    have hw2:IntKind.i64.wrap (n+am)=n':=by rw [←hsn];exact hw
    subst c1
    (try simp -implicitDefEqProofs [h,hxc,hxc',Part.c,hw2,e3])
    exact hfin _ rfl
   ·rw [if_neg c1,Int.add_zero] at hsn
    have c2:(ac==k)=false:=by simpa using c1
    (try simp -implicitDefEqProofs [h,hxc,hxc',Part.c,c1,c2,e3])
    exact hfin _ hsn
  have hie:i=l.length:=by omega
  subst hie
  rw [List.take_of_length_le (Nat.le_refl _)]
  have hra:=Bn (Am l k)
  generalize Am l k=n at *
  cases hz:Ah n
  ·rw [hz] at hra
   rw [hbad hz]
   ((try simp at hra);(try simp -implicitDefEqProofs [Mo]);repeat' first|(with_reducible apply A0<;>first|(simp only [eras,era,A1];first|with_reducible assumption)|(simp -implicitDefEqProofs [Mo])))
  ·rw [hz] at hra
   have hnx:=hnext hz
   have o1:O.length≤9223372036854775806:=by omega
   have o2:(O.length+1)*16≤140737488355328:=by omega
   by_cases hn0:n=0
   ·have hn1:(n==0)=true:=by simpa using hn0
    rw [if_pos hn0,List.append_nil] at hO2
    subst hn0
    ((try simp at hra);(try simp -implicitDefEqProofs);repeat' first|(with_reducible apply A0<;>first|(simp only [eras,era,A1];first|with_reducible assumption)|(simp -implicitDefEqProofs)))
    refine⟨m+1,k,hnx.1,hnx.2,by rw [hO2],by rw [hO2];exact leA.refl _,rfl⟩
   ·have hn1:(n==0)=false:=by simpa using hn0
    rw [if_neg hn0] at hO2
    have hn2:(n != 0)=true:=by simpa using hn0
    ((try simp at hra);(try simp -implicitDefEqProofs [hn0,hn1,hn2,o1,o2,maxLen]);repeat' first|(with_reducible apply A0<;>first|(simp only [eras,era,A1];first|with_reducible assumption)|(simp -implicitDefEqProofs [hn0,hn1,hn2,o1,o2,maxLen])))
    refine⟨m+1,k,hnx.1,hnx.2,by rw [hO2];simp,by rw [hO2,List.map_append];exact leA.refl _,rfl⟩
theorem S5 {l:List Sou} {cs:List Code} (h:U2 l cs=true):l.length≤13∧cs.length≤10∧(∀c∈cs,c.ins.length≤400)∧∀x∈l,x.items.length≤60:=by
 unfold U2 Jj at h
 simp only [Bool.and_eq_true,List.all_eq_true,decide_eq_true_eq] at h
 exact⟨h.1.2,h.2,fun c hc=>(h.1.1.2 c hc).2,h.1.1.1⟩
theorem A0w {l:List Sou} {cs:List Code} (h:U2 l cs=true) (hw : ∀x∈l,x.wf) : ∀s∈l.map Sou.src,s.num.natAbs≤100000∧0<s.den∧s.den≤100000∧s.items.length≤1000:=by
 intro s hs
 obtain⟨x,hx,rfl⟩:=List.mem_map.1 hs
 have h1:=(S5 h).2.2.2 x hx
 obtain⟨h2,h3⟩:=hw x hx
 have h4:=Oq (a:=x.sh) (q:=10000) (by decide)
 have h5:=Tr (a:=x.sh) (q:=10000)
 have h6:=Oo (a:=x.sh) (q:=10000) (by decide)
 unfold Sou.src
 exact⟨by simp only [];omega,h6,by simp only [];omega,by simp only [];omega⟩
theorem Ud {ps l:List Part} (h:Cw ps=some l):l.length≤ps.length:=by
 unfold Cw at h
 split at h
 ·cases h
  rw [List.length_map]
  exact Nat.le_trans (List.length_filter_le _ _) (G9 ps)
 ·cases h
theorem Ft {s:Src} {oth:Int} : ∀{l:List Ins} {st loc:List Int} {ps q:List Part},Ar s oth l st loc ps=some q→q.length≤ps.length+l.length
 | [],st,loc,ps,q,h=>by cases h;simp
 | x::l,st,loc,ps,q,h=>by
  unfold Ar at h
  rw [List.length_cons]
  split at h
  ·have:=Ft h;omega
  split at h
  ·split at h
   ·cases h;simp
   ·have:=Ft h;omega
  split at h
  ·have:=Ft h;rw [List.length_append] at this;simp at this;omega
  split at h
  ·have:=Ud h;rw [List.length_append] at this;simp at this;omega
  split at h
  ·have:=Ft h;omega
  ·cases h
structure BalP (cs:List Code) (p:Posting):Prop where
 kind:p.kind=10
 r0:0≤p.rule
 rl:p.rule<cs.length
 oth : ∀c,cs[p.rule.toNat]?=some c→(p.oth == -1) = !c.pair
 parts:PartsOk p.parts
 two:2≤p.parts.length
 len:p.parts.length≤8000
theorem A3b {cs:List Code} {l:List Src} {q:List Posting} (hci : ∀c∈cs,c.ins.length≤8000) (hl:Ds l=true) (h:K0 cs l=some q) {p:Posting} (hp:p∈q):BalP cs p:=by
 obtain⟨y,hy,h1,h2,h3,h4,h5,h6,h7⟩:=A2m h hp
 obtain⟨g1,g2,g3,g4⟩:=A2l hy
 have g0:=A6 g1
 refine⟨h2,by omega,by omega,fun c hc=>?_,h6,h6.two h7,?_⟩
 case refine_2=>
  unfold Cx at h1
  obtain⟨ps,hx,rfl⟩:=Option.map_eq_some_iff.1 h1
  have hl:=Ft hx
  have hcl:=hci _ (List.mem_of_getElem? g1)
  simp at hl
  unfold Dc
  split
  ·simp
  ·simp only [];omega
 rw [h3,Int.toNat_natCast,g1] at hc
 cases hc
 by_cases hp:y.1.1.pair=true
 ·rw [if_pos hp] at g4
  obtain⟨o,o1,o2,o3,o4⟩:=g4
  have:=(Et hl o1).1
  rw [hp,h5,←o3]
  simp;omega
 ·rw [if_neg hp] at g4
  rw [Bool.not_eq_true] at hp
  rw [hp,h5,g4];rfl
end Go.Proofs.YtmlpmdccfmmpoaaGreatDoor
section
set_option linter.unusedVariables false
namespace Go.Proofs.YtmlpmdccfmmpoaaGreatDoor
namespace E
def A8l (rvs:List RV) (nb nt:Nat) (r:V) (S':St) (e:Ex) (a:Fr) (S1:St):Prop:=
 (match e with | .ex _=>False | .pn _=>False|_=>True)∧(nb≤S'.boxes.length∧nt≤S'.toks.length)∧
 match Qg a S1 rvs with
 | some vs=>leS S1 S'∧leV (Ki vs) r∧okN S'.boxes.length S'.toks.length r=true
 | none=>False
attribute [simp] A8l
end E
end Go.Proofs.YtmlpmdccfmmpoaaGreatDoor
set_option linter.unusedSimpArgs false
set_option linter.unusedVariables false
namespace Go.Proofs.YtmlpmdccfmmpoaaGreatDoor
open E
structure Alike (a b:Src):Prop where
 ent:a.ent=b.ent
 full:a.full=b.full
 num:a.num=b.num
 den:a.den=b.den
 rd : ∀f t any p,Aq a.items f t any p=Aq b.items f t any p
end Go.Proofs.YtmlpmdccfmmpoaaGreatDoor
set_option linter.unusedSimpArgs false
set_option linter.unusedVariables false
set_option maxHeartbeats 4000000
set_option maxRecDepth 8000
namespace Go.Proofs.YtmlpmdccfmmpoaaGreatDoor
open E

theorem A0x (l:List Posting) (hl : ∀p∈l,p.parts.length≤1000000):A4 Tryz.prog 17 [Posting.l l,Posting.l l] (vB true):=by
 (refine A4.of_code mix Tryz.call17 k_17 (by simp) (fun hB=>?_);(try simp at hB);(try simp -implicitDefEqProofs))
 simp only [maxLen] at hB
 refine A9 (X:=Nat) (fun k=>k≤l.length) (fun k=>[(0,Posting.l l),(1,Posting.l l),(5,vI k)]) (fun _=>⟨[],[]⟩) (fun k=>l.length-k) 0 (by omega) (by simp) ?_
 rintro k hk hbd
 clear hbd
 rcases Nat.lt_or_ge k l.length with h|h
 ·obtain⟨p,hp⟩:=Ad h
  have e3:IntKind.i64.wrap ((k:Int)+1)=(k:Int)+1:=wrap64 (by omega) (by omega)
  have hpc:(l.map Posting.c)[k]?=some p.c:=by simp [hp]
  have hpc' : ∀h,(l.map Posting.c)[k]'h=p.c:=fun h=>by rw [List.getElem?_eq_getElem h] at hpc;exact Option.some.inj hpc
  have hpl:=hl p (List.mem_of_getElem? hp)
  obtain⟨kd,en,ot,ru,ps⟩:=p
  simp only [] at hpl
  have hfin : ∃z':Nat,z'≤l.length∧l.length-z'<l.length-k∧(z':Int)=(k:Int)+1:=⟨k+1,by omega,by omega,by push_cast;rfl⟩
  (try simp -implicitDefEqProofs [h,hpc,hpc',Posting.c])
  refine A9 (X:=Nat) (fun j=>j≤ps.length) (fun j=>[(0,Posting.l l),(1,Posting.l l),(5,vI k),(6,vI j)]) (fun _=>⟨[],[]⟩) (fun j=>ps.length-j) 0 (by omega) (by simp) ?_
  rintro j hj hbd
  clear hbd
  rcases Nat.lt_or_ge j ps.length with h2|h2
  ·obtain⟨x,hx⟩:=Ad h2
   have e4:IntKind.i64.wrap ((j:Int)+1)=(j:Int)+1:=wrap64 (by omega) (by omega)
   have hxc:(ps.map Part.c)[j]?=some x.c:=by simp [hx]
   have hxc' : ∀h,(ps.map Part.c)[j]'h=x.c:=fun h=>by rw [List.getElem?_eq_getElem h] at hxc;exact Option.some.inj hxc
   obtain⟨ac,am⟩:=x
   have hfin2 : ∃z':Nat,z'≤ps.length∧ps.length-z'<ps.length-j∧(z':Int)=(j:Int)+1:=⟨j+1,by omega,by omega,by push_cast;rfl⟩
   (try simp -implicitDefEqProofs [h,hpc,hpc',Posting.c,h2,hxc,hxc',Part.c,e4])
   exact hfin2
  ·have:j=ps.length:=by omega
   subst this
   (try simp -implicitDefEqProofs [h,hpc,hpc',Posting.c,e3])
   exact hfin
 ·have:k=l.length:=by omega
  subst this
  (try simp -implicitDefEqProofs)
theorem Mp (l:List Src) (hl:l.length≤1000000) (hi : ∀s∈l,s.items.length≤1000000):A4 Tryz.prog 32 [Src.ql l] (vB (Ds l)):=by
 obtain⟨R,hR⟩ : ∃R,R=Ds l:=⟨_,rfl⟩
 rw [←hR]
 have hok:=Nv l
 rw [←hR] at hok
 (refine A4.of_code mix Tryz.call32 k_32 (by simp) (fun hB=>?_);(try simp at hB);(try simp -implicitDefEqProofs))
 (try simp -implicitDefEqProofs)
 refine A9 (X:=Nat) (fun k=>k≤l.length∧∀j,j<k→Eu l j (l.getD j ⟨0,false,0,0,[]⟩)=false) (fun k=>[(0,Src.ql l),(3,vI k)]) (fun _=>⟨[],[]⟩) (fun k=>l.length-k) 0 ⟨by omega,fun j h=>by omega⟩ ?hs ?_
 case hs=>simp [Src.ql,okN]
 rintro k ⟨hk,hb⟩ hbd
 clear hbd
 have e3:IntKind.i64.wrap ((k:Int)+1)=(k:Int)+1:=wrap64 (by omega) (by omega)
 have e4:IntKind.i64.wrap ((k:Int)-1)=(k:Int)-1:=wrap64 (by omega) (by omega)
 rcases Nat.lt_or_ge k l.length with h|h
 ·obtain⟨s,hs⟩:=Ad h
  have hgd:l.getD k ⟨0,false,0,0,[]⟩=s:=by rw [List.getD_eq_getElem?_getD,hs];rfl
  have hsc:(l.map Src.q)[k]?=some s.q:=by simp [hs]
  have hsc' : ∀h,(l.map Src.q)[k]'h=s.q:=fun h=>by rw [List.getElem?_eq_getElem h] at hsc;exact Option.some.inj hsc
  have hcc:s.q=[.int .i64 s.ent,.bool s.full,.bool (nB s.num),.sl (qE s.num),.bool (nB s.den),.sl (qE s.den),.sl (s.items.map Item.c)]:=rfl
  rw [hcc] at hsc hsc'
  have hil:=hi s (List.mem_of_getElem? hs)
  have hfail:Eu l k s=true→R=false:=fun hq=>by
   rw [hok,List.all_eq_false]
   exact⟨k,List.mem_range.2 h,by rw [hgd,hq];simp⟩
  have hnext:Eu l k s=false→∀j,j<k+1→Eu l j (l.getD j ⟨0,false,0,0,[]⟩)=false:=fun hq j hj=>by
   rcases Nat.lt_or_ge j k with h1|h1
   ·exact hb j h1
   ·have:j=k:=by omega
    subst this;rw [hgd];exact hq
  by_cases c1:s.ent<0
  ·have hf:=hfail (by simp [Eu,c1])
   rw [hf]
   (try simp -implicitDefEqProofs [h,hsc,hsc',Src.ql,c1])
  by_cases c2:12≤s.ent
  ·have hf:=hfail (by simp [Eu,c2])
   rw [hf]
   (try simp -implicitDefEqProofs [h,hsc,hsc',Src.ql,c1,c2])
  have hrest:Eu l k s=((decide (0<k)&&decide (s.ent≤(l.getD (k-1) ⟨0,false,0,0,[]⟩).ent))||s.items.any fun x=>!Ah x.amt):=by
   unfold Eu
   have d1:decide (s.ent<0)=false:=by simpa using c1
   have d2:decide (12≤s.ent)=false:=by simpa using c2
   rw [d1,d2];rfl
  rcases Nat.eq_zero_or_pos k with k0|k0
  ·subst k0
   (try simp -implicitDefEqProofs [h,hsc,hsc',Src.ql,c1,c2])
   refine A9 (X:=Nat) (fun j=>j≤s.items.length∧∀y∈s.items.take j,Ah y.amt=true) (fun j=>[(0,Src.ql l),(3,vI (0:Int)),(4,vI j)]) (fun _=>⟨[],[]⟩) (fun j=>s.items.length-j) 0 ⟨by omega,by simp⟩ (by simp [Src.ql,okN]) ?_
   rintro j ⟨hj,hjb⟩ hbd
   clear hbd
   rcases Nat.lt_or_ge j s.items.length with h2|h2
   ·obtain⟨x,hx⟩:=Ad h2
    have e5:IntKind.i64.wrap ((j:Int)+1)=(j:Int)+1:=wrap64 (by omega) (by omega)
    have hxc:(s.items.map Item.c)[j]?=some x.c:=by simp [hx]
    have hxc' : ∀h,(s.items.map Item.c)[j]'h=x.c:=fun h=>by rw [List.getElem?_eq_getElem h] at hxc;exact Option.some.inj hxc
    have ha:=Bn x.amt
    cases hv:Ah x.amt
    ·rw [hv] at ha
     rw [hfail (by rw [hrest];simp only [Bool.or_eq_true];exact .inr (List.any_eq_true.2 ⟨x,List.mem_of_getElem? hx,by rw [hv];rfl⟩))]
     obtain⟨i1,i2,i3,i4,i5,i6,i7⟩:=x
     ((try simp at ha);(try simp -implicitDefEqProofs [h,hsc,hsc',Src.ql,h2,hxc,hxc',Item.c]);repeat' first|(with_reducible apply A0<;>first|(simp only [eras,era,A1];first|with_reducible assumption)|(simp -implicitDefEqProofs [h,hsc,hsc',Src.ql,h2,hxc,hxc',Item.c])))
    ·rw [hv] at ha
     have hfin : ∃z':Nat,(z'≤s.items.length∧∀y∈s.items.take z',Ah y.amt=true)∧s.items.length-z'<s.items.length-j∧(z':Int)=(j:Int)+1:=by
      refine⟨j+1,⟨by omega,fun y hy=>?_⟩,by omega,by push_cast;rfl⟩
      rw [Ae hx] at hy
      rcases List.mem_append.1 hy with h1|h1
      ·exact hjb y h1
      ·simp at h1;subst h1;exact hv
     obtain⟨i1,i2,i3,i4,i5,i6,i7⟩:=x
     ((try simp at ha);(try simp -implicitDefEqProofs [h,hsc,hsc',Src.ql,h2,hxc,hxc',Item.c,e5]);repeat' first|(with_reducible apply A0<;>first|(simp only [eras,era,A1];first|with_reducible assumption)|(simp -implicitDefEqProofs [h,hsc,hsc',Src.ql,h2,hxc,hxc',Item.c,e5])))
     exact hfin
   ·have hje:j=s.items.length:=by omega
    subst hje
    rw [List.take_of_length_le (Nat.le_refl _)] at hjb
    have ha:(s.items.any fun x=>!Ah x.amt)=false:=by
     rw [List.any_eq_false];intro y hy;simp [hjb y hy]
    have hn:=hnext (by rw [hrest,ha];rfl)
    have hfin : ∃z':Nat,(z'≤l.length∧∀j,j<z'→Eu l j (l.getD j ⟨0,false,0,0,[]⟩)=false)∧l.length-z'<l.length-(0:Nat)∧(z':Int)=((0:Nat):Int)+1:=⟨(0:Nat)+1,⟨by omega,hn⟩,by omega,by simp⟩
    (try simp -implicitDefEqProofs [h,hsc,hsc',Src.ql,e3])
    simpa [List.getD_eq_getElem?_getD] using hfin
  ·obtain⟨q,hq⟩:=Ad (show k-1<l.length by omega)
   have hgq:l.getD (k-1) ⟨0,false,0,0,[]⟩=q:=by rw [List.getD_eq_getElem?_getD,hq];rfl
   rw [hgq] at hrest
   have hqc:(l.map Src.q)[k-1]?=some q.q:=by simp [hq]
   have hqc' : ∀h,(l.map Src.q)[k-1]'h=q.q:=fun h=>by rw [List.getElem?_eq_getElem h] at hqc;exact Option.some.inj hqc
   have hqq:q.q=[.int .i64 q.ent,.bool q.full,.bool (nB q.num),.sl (qE q.num),.bool (nB q.den),.sl (qE q.den),.sl (q.items.map Item.c)]:=rfl
   rw [hqq] at hqc hqc'
   have i1:((k:Int)-1).toNat=k-1:=by omega
   have j1:(1:Int)≤k:=by omega
   have j2:(k:Int)-1<l.length:=by omega
   have d0:decide (0<k)=true:=by simpa using k0
   rw [d0,Bool.true_and] at hrest
   by_cases c3:s.ent≤q.ent
   ·rw [hfail (by rw [hrest];simp [c3])]
    (try simp -implicitDefEqProofs [h,hsc,hsc',hqc,hqc',Src.ql,c1,c2,k0,i1,j1,j2,e4,c3])
   ·have d3:decide (s.ent≤q.ent)=false:=by simpa using c3
    rw [d3,Bool.false_or] at hrest
    (try simp -implicitDefEqProofs [h,hsc,hsc',hqc,hqc',Src.ql,c1,c2,k0,i1,j1,j2,e4,c3])
    refine A9 (X:=Nat) (fun j=>j≤s.items.length∧∀y∈s.items.take j,Ah y.amt=true) (fun j=>[(0,Src.ql l),(3,vI k),(4,vI j)]) (fun _=>⟨[],[]⟩) (fun j=>s.items.length-j) 0 ⟨by omega,by simp⟩ (by simp [Src.ql,okN]) ?_
    rintro j ⟨hj,hjb⟩ hbd
    clear hbd
    rcases Nat.lt_or_ge j s.items.length with h2|h2
    ·obtain⟨x,hx⟩:=Ad h2
     have e5:IntKind.i64.wrap ((j:Int)+1)=(j:Int)+1:=wrap64 (by omega) (by omega)
     have hxc:(s.items.map Item.c)[j]?=some x.c:=by simp [hx]
     have hxc' : ∀h,(s.items.map Item.c)[j]'h=x.c:=fun h=>by rw [List.getElem?_eq_getElem h] at hxc;exact Option.some.inj hxc
     have ha:=Bn x.amt
     cases hv:Ah x.amt
     ·rw [hv] at ha
      rw [hfail (by rw [hrest];exact List.any_eq_true.2 ⟨x,List.mem_of_getElem? hx,by rw [hv];rfl⟩)]
      obtain⟨i1,i2,i3,i4,i5,i6,i7⟩:=x
      ((try simp at ha);(try simp -implicitDefEqProofs [h,hsc,hsc',Src.ql,h2,hxc,hxc',Item.c]);repeat' first|(with_reducible apply A0<;>first|(simp only [eras,era,A1];first|with_reducible assumption)|(simp -implicitDefEqProofs [h,hsc,hsc',Src.ql,h2,hxc,hxc',Item.c])))
     ·rw [hv] at ha
      have hfin : ∃z':Nat,(z'≤s.items.length∧∀y∈s.items.take z',Ah y.amt=true)∧s.items.length-z'<s.items.length-j∧(z':Int)=(j:Int)+1:=by
       refine⟨j+1,⟨by omega,fun y hy=>?_⟩,by omega,by push_cast;rfl⟩
       rw [Ae hx] at hy
       rcases List.mem_append.1 hy with h1|h1
       ·exact hjb y h1
       ·simp at h1;subst h1;exact hv
      obtain⟨i1,i2,i3,i4,i5,i6,i7⟩:=x
      ((try simp at ha);(try simp -implicitDefEqProofs [h,hsc,hsc',Src.ql,h2,hxc,hxc',Item.c,e5]);repeat' first|(with_reducible apply A0<;>first|(simp only [eras,era,A1];first|with_reducible assumption)|(simp -implicitDefEqProofs [h,hsc,hsc',Src.ql,h2,hxc,hxc',Item.c,e5])))
      exact hfin
    ·have hje:j=s.items.length:=by omega
     subst hje
     rw [List.take_of_length_le (Nat.le_refl _)] at hjb
     have ha:(s.items.any fun x=>!Ah x.amt)=false:=by
      rw [List.any_eq_false];intro y hy;simp [hjb y hy]
     have hn:=hnext (by rw [hrest,ha])
     have hfin : ∃z':Nat,(z'≤l.length∧∀j,j<z'→Eu l j (l.getD j ⟨0,false,0,0,[]⟩)=false)∧l.length-z'<l.length-k∧(z':Int)=(k:Int)+1:=⟨k+1,⟨by omega,hn⟩,by omega,by push_cast;rfl⟩
     (try simp -implicitDefEqProofs [h,hsc,hsc',Src.ql,e3])
     simpa [List.getD_eq_getElem?_getD] using hfin
 ·have hkk:k=l.length:=by omega
  subst hkk
  have hRt:R=true:=by
   rw [hok]
   exact List.all_eq_true.2 fun j hj=>by rw [hb j (List.mem_range.1 hj)];rfl
  rw [hRt]
  (try simp -implicitDefEqProofs [Src.ql])
end Go.Proofs.YtmlpmdccfmmpoaaGreatDoor
set_option linter.unusedSimpArgs false
set_option linter.unusedVariables false
set_option maxHeartbeats 4000000
set_option maxRecDepth 8000
namespace Go.Proofs.YtmlpmdccfmmpoaaGreatDoor
open E

theorem A6a (n m:Nat) (e:TypeId) (z:Nat) (l:List T):E.leB n m (.buf e z (l.map .t)) (.buf e z (l.map .t)):=⟨rfl,rfl,A5 _,Fk _ _ _⟩
theorem Ab.dead {n m:Nat} : ∀(D:List Bx),Ab n m D (List.replicate D.length .dead)
 | []=>trivial
 | x::D=>⟨trivial,Ab.dead D⟩
theorem Ab.append {n m:Nat} : ∀{A A' l l':List Bx},Ab n m A A'→Ab n m l l'→A.length=A'.length→Ab n m (A++l) (A'++l')
 | [],[],_,_,_,h,_=>h
 | a::A,b::B,l,l',h,h2,hl=>⟨h.1,Ab.append h.2 h2 (by simpa using hl)⟩
theorem A0y {α:Type} {c:α→List T} {z:Nat} (hz : ∀x,(c x).length=z) (o:List α):F4 z o.length (o.flatMap c)=some (o.map c):=by
 have hl:(o.flatMap c).length=o.length*z:=by
  induction o with
  | nil=>simp
  | cons x o ih=>simp only [List.flatMap_cons,List.length_append,hz,ih,List.length_cons,Nat.succ_mul];omega
 unfold F4
 rw [if_pos hl]
 congr 1
 clear hl
 induction o with
 | nil=>rfl
 | cons x o ih=>
  rw [List.length_cons,List.range_succ_eq_map,List.map_cons,List.map_cons,List.flatMap_cons,List.map_map]
  congr 1
  ·simp [hz]
  ·rw [←ih]
   apply List.map_congr_left
   intro i _
   simp only [Function.comp_apply,Nat.succ_mul]
   rw [Nat.add_comm (i*z) z,←List.drop_drop,List.drop_left' (hz x)]
end Go.Proofs.YtmlpmdccfmmpoaaGreatDoor
set_option linter.unusedSimpArgs false
set_option linter.unusedVariables false
set_option maxHeartbeats 4000000
set_option maxRecDepth 8000
namespace Go.Proofs.YtmlpmdccfmmpoaaGreatDoor
open E

end Go.Proofs.YtmlpmdccfmmpoaaGreatDoor
end
